/- The law MachineSaves, plain: what is saved is loaded. -/
import Derived.Test.YteolbecihipcaaaM14
open Go Go.Proofs Go.RowKit
namespace Go.Proofs.Yteolbecihipcaaa.Sx.M5
set_option linter.unusedVariables false
set_option linter.unusedSimpArgs false
theorem wrap_u8 (x : Int) : IntKind.u8.wrap x = x % 256 := by simp [IntKind.wrap, IntKind.bits, IntKind.signed]
theorem w64' {n : Int} (h0 : 0 ≤ n) (h1 : n < 18446744073709551616) : IntKind.u64.wrap n = n := by rw [wrap_u64]; omega
theorem or_comm64 (x y : Int) : Go.bits .or .u64 x y = Go.bits .or .u64 y x := by
  show IntKind.u64.wrap _ = IntKind.u64.wrap _
  congr 3
  exact BitVec.or_comm _ _
/-- A byte of a number. -/
abbrev byteN (x : Int) (k : Nat) : Int := (x / 2 ^ (8 * k)) % 256
theorem ld_step {mem : List Int} {x : Int} (hx : 0 ≤ x) (k idx : Nat) (hk : k < 8) (hm : mem.getD idx 0 = byteN x k) : ld1_s mem (x % 2 ^ (8 * k)) idx (8 * (k : Int)) = x % 2 ^ (8 * (k + 1)) := by
  unfold ld1_s
  rw [hm, show min ((8 * (k : Int)).toNat) 64 = 8 * k by omega]
  have hb : 0 ≤ byteN x k ∧ byteN x k < 256 := ⟨Int.emod_nonneg _ (by decide), Int.emod_lt_of_pos _ (by decide)⟩
  have hlow : 0 ≤ x % 2 ^ (8 * k) := Int.emod_nonneg _ (by
    have : (0 : Int) < 2 ^ (8 * k) := Int.pow_pos (by decide)
    omega)
  rw [w64' hb.1 (by omega)]
  match k, hk with
  | 0, _ =>
    simp only [byteN, Nat.mul_zero, Int.pow_zero, Nat.zero_add, Nat.mul_one] at *
    rw [w64' (by omega) (by omega), show x % 1 = 0 by omega, or_comm64, bits_join .u64 64 (by decide) (fun n h0 h1 => w64' h0 h1) 0 (x / 1 % 256 * 1) 0 (by omega) (by simp) (by omega) (by omega) (by decide) (by omega)]
    omega
  | 1, _ =>
    simp only [byteN, Nat.reduceMul, Nat.reduceAdd, Int.reducePow] at *
    rw [w64' (by omega) (by omega), or_comm64, bits_join .u64 64 (by decide) (fun n h0 h1 => w64' h0 h1) 8 (x / 256 % 256 * 256) (x % 256) (by omega) (by simp) (by omega) (by omega) (by simp; omega) (by omega)]
    omega
  | 2, _ =>
    simp only [byteN, Nat.reduceMul, Nat.reduceAdd, Int.reducePow] at *
    rw [w64' (by omega) (by omega), or_comm64, bits_join .u64 64 (by decide) (fun n h0 h1 => w64' h0 h1) 16 (x / 65536 % 256 * 65536) (x % 65536) (by omega) (by simp) (by omega) (by omega) (by simp; omega) (by omega)]
    omega
  | 3, _ =>
    simp only [byteN, Nat.reduceMul, Nat.reduceAdd, Int.reducePow] at *
    rw [w64' (by omega) (by omega), or_comm64, bits_join .u64 64 (by decide) (fun n h0 h1 => w64' h0 h1) 24 (x / 16777216 % 256 * 16777216) (x % 16777216) (by omega) (by simp) (by omega) (by omega) (by simp; omega) (by omega)]
    omega
  | 4, _ =>
    simp only [byteN, Nat.reduceMul, Nat.reduceAdd, Int.reducePow] at *
    rw [w64' (by omega) (by omega), or_comm64, bits_join .u64 64 (by decide) (fun n h0 h1 => w64' h0 h1) 32 (x / 4294967296 % 256 * 4294967296) (x % 4294967296) (by omega) (by simp) (by omega) (by omega) (by simp; omega) (by omega)]
    omega
  | 5, _ =>
    simp only [byteN, Nat.reduceMul, Nat.reduceAdd, Int.reducePow] at *
    rw [w64' (by omega) (by omega), or_comm64, bits_join .u64 64 (by decide) (fun n h0 h1 => w64' h0 h1) 40 (x / 1099511627776 % 256 * 1099511627776) (x % 1099511627776) (by omega) (by simp) (by omega) (by omega) (by simp; omega) (by omega)]
    omega
  | 6, _ =>
    simp only [byteN, Nat.reduceMul, Nat.reduceAdd, Int.reducePow] at *
    rw [w64' (by omega) (by omega), or_comm64, bits_join .u64 64 (by decide) (fun n h0 h1 => w64' h0 h1) 48 (x / 281474976710656 % 256 * 281474976710656) (x % 281474976710656) (by omega) (by simp) (by omega) (by omega) (by simp; omega) (by omega)]
    omega
  | 7, _ =>
    simp only [byteN, Nat.reduceMul, Nat.reduceAdd, Int.reducePow] at *
    rw [w64' (by omega) (by omega), or_comm64, bits_join .u64 64 (by decide) (fun n h0 h1 => w64' h0 h1) 56 (x / 72057594037927936 % 256 * 72057594037927936) (x % 72057594037927936) (by omega) (by simp) (by omega) (by omega) (by simp; omega) (by omega)]
    omega
theorem sv_step {ms : List Int} {x : Int} (hx : 0 ≤ x) (k idx : Nat) (hk : k < 8) : sv1_s ms x idx (8 * (k : Int)) = ms.set idx (byteN x k) := by
  unfold sv1_s
  rw [show min ((8 * (k : Int)).toNat) 64 = 8 * k by omega, wrap_u8, Int.fdiv_eq_ediv_of_nonneg _ (Int.le_of_lt (Int.pow_pos (by decide)))]
/-- A number's bytes stand from a place on, all else is as it was. -/
structure Put (mem ms : List Int) (A n : Nat) (x : Int) (done : Nat) : Prop where
  len : ms.length = mem.length
  new : ∀ j, j < done → ms.getD (A + j) 0 = byteN x j
  take : ms.take A = mem.take A
  drop : ms.drop (A + n) = mem.drop (A + n)
theorem Put.step {mem ms : List Int} {A n : Nat} {x : Int} {k : Nat} (h : Put mem ms A n x k) (hk : k < n) (hfit : A + n ≤ mem.length) : Put mem (ms.set (A + k) (byteN x k)) A n x (k + 1) := by
  refine ⟨by rw [List.length_set]; exact h.len, fun j hj => ?_, ?_, ?_⟩
  · rw [List.getD_eq_getElem?_getD, List.getElem?_set]
    by_cases e : k = j
    · subst e; rw [if_pos rfl, if_pos (by have := h.len; omega)]; rfl
    · rw [if_neg (by omega), ← List.getD_eq_getElem?_getD]; exact h.new j (by omega)
  · rw [← h.take]
    apply List.ext_getElem?
    intro j
    rw [List.getElem?_take, List.getElem?_take]
    by_cases c : j < A
    · rw [if_pos c, if_pos c, List.getElem?_set, if_neg (by omega)]
    · rw [if_neg c, if_neg c]
  · rw [← h.drop]
    apply List.ext_getElem?
    intro j
    rw [List.getElem?_drop, List.getElem?_drop, List.getElem?_set, if_neg (by omega)]
theorem eachS_good {p : Img} {inp : List Int} {pl : Int} {regs : Nat → Int} {mem os : List Int} {i : Ins} {x : Int} (hx : 0 ≤ x) {n A : Nat} (hc : i.c = (n : Int)) (hn : n ≤ 8) (hm : mem.length ≤ 64) (hA : IntKind.u64.wrap (regs i.b.toNat + i.imm) = (A : Int)) (hfit : A + n ≤ mem.length) :
    ∃ ms, eachS_s p inp pl regs mem os i x = (true, ms) ∧ Put mem ms A n x n := by
  have key : ∀ (m k : Nat) (ms : List Int), n - k < m → k ≤ n → Put mem ms A n x k → ∃ ms', eachS_l0 p inp pl regs mem os i x m k ms = (true, ms') ∧ Put mem ms' A n x n := by
    intro m
    induction m with
    | zero => intro k ms hm; exact absurd hm (Nat.not_lt_zero _)
    | succ m ih =>
      intro k ms h1 h2 h3
      rw [eachS_l0, hc, hA]
      by_cases c : k < n
      · rw [decide_eq_true (by omega)]
        simp only [cond_true]
        rw [show ((A : Int) + (k : Int)).toNat = A + k by omega, sv_step hx k _ (by omega)]
        exact ih (k + 1) _ (by omega) (by omega) (h3.step c hfit)
      · rw [decide_eq_false (by omega)]
        obtain rfl : k = n := by omega
        exact ⟨ms, rfl, h3⟩
  unfold eachS_s
  rw [hA, hc]
  rw [decide_eq_false (by rw [wrap_u64, wrap_u64]; omega)]
  simp only [cond_false]
  rw [decide_eq_false (by rw [wrap_u64, wrap_u64, wrap_u64]; omega)]
  simp only [cond_false]
  exact key _ 0 mem (by omega) (by omega) ⟨rfl, fun j hj => absurd hj (Nat.not_lt_zero _), rfl, rfl⟩
theorem eachS_bad {p : Img} {inp : List Int} {pl : Int} {regs : Nat → Int} {mem os : List Int} {i : Ins} {x : Int} {n : Nat} {A : Int} (hc : i.c = (n : Int)) (hn : n ≤ 8) (hm : mem.length ≤ 64) (hA : IntKind.u64.wrap (regs i.b.toNat + i.imm) = A) (hfit : (mem.length : Int) < n ∨ A > IntKind.u64.wrap ((mem.length : Int) - n)) :
    eachS_s p inp pl regs mem os i x = (false, mem) := by
  unfold eachS_s
  rw [hA, hc]
  by_cases c : mem.length < n
  · rw [decide_eq_true (by rw [wrap_u64, wrap_u64]; omega)]; rfl
  · rw [decide_eq_false (by rw [wrap_u64, wrap_u64]; omega)]
    simp only [cond_false]
    have h2 := hfit.resolve_left (by omega)
    rw [wrap_u64] at h2
    rw [decide_eq_true (by rw [wrap_u64, wrap_u64, wrap_u64]; omega)]; rfl
theorem eachL_good {p : Img} {inp : List Int} {pl : Int} {regs : Nat → Int} {mem0 mem os : List Int} {i : Ins} {x : Int} (hx : 0 ≤ x) {n A : Nat} (hc : i.c = (n : Int)) (hn : n ≤ 8) (hm : mem.length ≤ 64) (hA : IntKind.u64.wrap (regs i.b.toNat + i.imm) = (A : Int)) (hfit : A + n ≤ mem.length) (hp : Put mem0 mem A n x n) :
    eachL_s p inp pl regs mem os i 0 = (true, x % 2 ^ (8 * n)) := by
  have key : ∀ (m k : Nat), n - k < m → k ≤ n → eachL_l0 p inp pl regs mem os i 0 m k (x % 2 ^ (8 * k)) = (true, x % 2 ^ (8 * n)) := by
    intro m
    induction m with
    | zero => intro k hm; exact absurd hm (Nat.not_lt_zero _)
    | succ m ih =>
      intro k h1 h2
      rw [eachL_l0, hc, hA]
      by_cases c : k < n
      · rw [decide_eq_true (by omega)]
        simp only [cond_true]
        rw [show ((A : Int) + (k : Int)).toNat = A + k by omega, ld_step hx k _ (by omega) (hp.new k c)]
        exact ih (k + 1) (by omega) (by omega)
      · rw [decide_eq_false (by omega)]
        obtain rfl : k = n := by omega
        rfl
  unfold eachL_s
  rw [hA, hc]
  rw [decide_eq_false (by rw [wrap_u64, wrap_u64]; omega)]
  simp only [cond_false]
  rw [decide_eq_false (by rw [wrap_u64, wrap_u64, wrap_u64]; omega)]
  simp only [cond_false]
  have := key ((((n : Int) - 0).toNat + 1)) 0 (by omega) (by omega)
  rwa [show x % 2 ^ (8 * 0) = 0 by simp] at this
end Go.Proofs.Yteolbecihipcaaa.Sx.M5
