/- A step of the program is the document's. -/
import Derived.Test.YteolbecihipcaaaM31
import Derived.Test.YteolbecihipcaaaM33
import Derived.Test.YteolbecihipcaaaM36
open Go Go.Proofs Go.RowKit
namespace Go.Proofs.Yteolbecihipcaaa.Sx.M5
set_option linter.unusedVariables false
set_option linter.unusedSimpArgs false
theorem wrap_u8  (x : Int) : IntKind.u8.wrap x = x % 256 := by simp [IntKind.wrap, IntKind.bits, IntKind.signed]
theorem w64' {n : Int} (h0 : 0 ≤ n) (h1 : n < 18446744073709551616) : IntKind.u64.wrap n = n := by rw [wrap_u64]; omega
theorem or_comm64 (x y : Int) : Go.bits .or .u64 x y = Go.bits .or .u64 y x := by
  show IntKind.u64.wrap _ = IntKind.u64.wrap _
  congr 3
  exact BitVec.or_comm _ _
/-- A byte of a number. -/
abbrev byteN (x : Int) (k : Nat) : Int := (x / 2 ^ (8 * k)) % 256
theorem ld_step {mem : List Int} {x : Int} (hx : 0 ≤ x) (k idx : Nat) (hk : k < 8) (hm : mem.getD idx 0 = byteN x k) : ld1_s mem (x % 2 ^ (8 * k)) idx (8 * (k : Int)) = x % 2 ^ (8 * (k + 1)) := by
  unfold ld1_s
  rw [hm, show min ((8 * (k : Int)).toNat) 64 = 8 * k by omega]
  have hb : 0 ≤ byteN x k ∧ byteN x k < 256 := ⟨Int.emod_nonneg _ (by decide), Int.emod_lt_of_pos _ (by decide)⟩
  have hlow : 0 ≤ x % 2 ^ (8 * k) := Int.emod_nonneg _ (by
    have : (0 : Int) < 2 ^ (8 * k) := Int.pow_pos (by decide)
    omega)
  rw [w64' hb.1 (by omega)]
  match k, hk with
  | 0, _ =>
    simp only [byteN, Nat.mul_zero, Int.pow_zero, Nat.zero_add, Nat.mul_one] at *
    rw [w64' (by omega) (by omega), show x % 1 = 0 by omega, or_comm64, bits_join .u64 64 (by decide) (fun n h0 h1 => w64' h0 h1) 0 (x / 1 % 256 * 1) 0 (by omega) (by simp) (by omega) (by omega) (by decide) (by omega)]
    omega
  | 1, _ =>
    simp only [byteN, Nat.reduceMul, Nat.reduceAdd, Int.reducePow] at *
    rw [w64' (by omega) (by omega), or_comm64, bits_join .u64 64 (by decide) (fun n h0 h1 => w64' h0 h1) 8 (x / 256 % 256 * 256) (x % 256) (by omega) (by simp) (by omega) (by omega) (by simp; omega) (by omega)]
    omega
  | 2, _ =>
    simp only [byteN, Nat.reduceMul, Nat.reduceAdd, Int.reducePow] at *
    rw [w64' (by omega) (by omega), or_comm64, bits_join .u64 64 (by decide) (fun n h0 h1 => w64' h0 h1) 16 (x / 65536 % 256 * 65536) (x % 65536) (by omega) (by simp) (by omega) (by omega) (by simp; omega) (by omega)]
    omega
  | 3, _ =>
    simp only [byteN, Nat.reduceMul, Nat.reduceAdd, Int.reducePow] at *
    rw [w64' (by omega) (by omega), or_comm64, bits_join .u64 64 (by decide) (fun n h0 h1 => w64' h0 h1) 24 (x / 16777216 % 256 * 16777216) (x % 16777216) (by omega) (by simp) (by omega) (by omega) (by simp; omega) (by omega)]
    omega
  | 4, _ =>
    simp only [byteN, Nat.reduceMul, Nat.reduceAdd, Int.reducePow] at *
    rw [w64' (by omega) (by omega), or_comm64, bits_join .u64 64 (by decide) (fun n h0 h1 => w64' h0 h1) 32 (x / 4294967296 % 256 * 4294967296) (x % 4294967296) (by omega) (by simp) (by omega) (by omega) (by simp; omega) (by omega)]
    omega
  | 5, _ =>
    simp only [byteN, Nat.reduceMul, Nat.reduceAdd, Int.reducePow] at *
    rw [w64' (by omega) (by omega), or_comm64, bits_join .u64 64 (by decide) (fun n h0 h1 => w64' h0 h1) 40 (x / 1099511627776 % 256 * 1099511627776) (x % 1099511627776) (by omega) (by simp) (by omega) (by omega) (by simp; omega) (by omega)]
    omega
  | 6, _ =>
    simp only [byteN, Nat.reduceMul, Nat.reduceAdd, Int.reducePow] at *
    rw [w64' (by omega) (by omega), or_comm64, bits_join .u64 64 (by decide) (fun n h0 h1 => w64' h0 h1) 48 (x / 281474976710656 % 256 * 281474976710656) (x % 281474976710656) (by omega) (by simp) (by omega) (by omega) (by simp; omega) (by omega)]
    omega
  | 7, _ =>
    simp only [byteN, Nat.reduceMul, Nat.reduceAdd, Int.reducePow] at *
    rw [w64' (by omega) (by omega), or_comm64, bits_join .u64 64 (by decide) (fun n h0 h1 => w64' h0 h1) 56 (x / 72057594037927936 % 256 * 72057594037927936) (x % 72057594037927936) (by omega) (by simp) (by omega) (by omega) (by simp; omega) (by omega)]
    omega
theorem sv_step {ms : List Int} {x : Int} (hx : 0 ≤ x) (k idx : Nat) (hk : k < 8) : sv1_s ms x idx (8 * (k : Int)) = ms.set idx (byteN x k) := by
  unfold sv1_s
  rw [show min ((8 * (k : Int)).toNat) 64 = 8 * k by omega, wrap_u8, Int.fdiv_eq_ediv_of_nonneg _ (Int.le_of_lt (Int.pow_pos (by decide)))]
/-- A number's bytes stand from a place on, all else is as it was. -/
structure Put (mem ms : List Int) (A n : Nat) (x : Int) (done : Nat) : Prop where
  len : ms.length = mem.length
  new : ∀ j, j < done → ms.getD (A + j) 0 = byteN x j
  take : ms.take A = mem.take A
  drop : ms.drop (A + n) = mem.drop (A + n)
theorem eachS_bad {p : Img} {inp : List Int} {pl : Int} {regs : Nat → Int} {mem os : List Int} {i : Ins} {x : Int} {n : Nat} {A : Int} (hc : i.c = (n : Int)) (hn : n ≤ 8) (hm : mem.length ≤ 64) (hA : IntKind.u64.wrap (regs i.b.toNat + i.imm) = A) (hfit : (mem.length : Int) < n ∨ A > IntKind.u64.wrap ((mem.length : Int) - n)) :
    eachS_s p inp pl regs mem os i x = (false, mem) := by
  unfold eachS_s
  rw [hA, hc]
  by_cases c : mem.length < n
  · rw [decide_eq_true (by rw [wrap_u64, wrap_u64]; omega)]; rfl
  · rw [decide_eq_false (by rw [wrap_u64, wrap_u64]; omega)]
    simp only [cond_false]
    have h2 := hfit.resolve_left (by omega)
    rw [wrap_u64] at h2
    rw [decide_eq_true (by rw [wrap_u64, wrap_u64, wrap_u64]; omega)]; rfl
theorem eachL_good {p : Img} {inp : List Int} {pl : Int} {regs : Nat → Int} {mem0 mem os : List Int} {i : Ins} {x : Int} (hx : 0 ≤ x) {n A : Nat} (hc : i.c = (n : Int)) (hn : n ≤ 8) (hm : mem.length ≤ 64) (hA : IntKind.u64.wrap (regs i.b.toNat + i.imm) = (A : Int)) (hfit : A + n ≤ mem.length) (hp : Put mem0 mem A n x n) :
    eachL_s p inp pl regs mem os i 0 = (true, x % 2 ^ (8 * n)) := by
  have key : ∀ (m k : Nat), n - k < m → k ≤ n → eachL_l0 p inp pl regs mem os i 0 m k (x % 2 ^ (8 * k)) = (true, x % 2 ^ (8 * n)) := by
    intro m
    induction m with
    | zero => intro k hm; exact absurd hm (Nat.not_lt_zero _)
    | succ m ih =>
      intro k h1 h2
      rw [eachL_l0, hc, hA]
      by_cases c : k < n
      · rw [decide_eq_true (by omega)]
        simp only [cond_true]
        rw [show ((A : Int) + (k : Int)).toNat = A + k by omega, ld_step hx k _ (by omega) (hp.new k c)]
        exact ih (k + 1) (by omega) (by omega)
      · rw [decide_eq_false (by omega)]
        obtain rfl : k = n := by omega
        rfl
  unfold eachL_s
  rw [hA, hc]
  rw [decide_eq_false (by rw [wrap_u64, wrap_u64]; omega)]
  simp only [cond_false]
  rw [decide_eq_false (by rw [wrap_u64, wrap_u64, wrap_u64]; omega)]
  simp only [cond_false]
  have := key ((((n : Int) - 0).toNat + 1)) 0 (by omega) (by omega)
  rwa [show x % 2 ^ (8 * 0) = 0 by simp] at this
theorem strayf_t {p : Img} {j : Nat} (h : strayf_s p j = false) : (goes_s (p.code.getD j default).op = true → (j : Int) + 1 < (ends_s p (fun_s p j)).2) ∧ ((p.code.getD j default).op = 21 ∨ (p.code.getD j default).op = 22 → IntKind.u64.wrap (ends_s p (fun_s p j)).1 ≤ (p.code.getD j default).imm ∧ (p.code.getD j default).imm < IntKind.u64.wrap (ends_s p (fun_s p j)).2) := by
  unfold strayf_s at h
  rw [Int.toNat_natCast] at h
  generalize p.code.getD j default = i at h ⊢
  generalize ends_s p (fun_s p j) = e at h ⊢
  have key : (bif i.op == (21 : Int) then (bif decide (i.imm < IntKind.u64.wrap e.1) then true else decide (i.imm ≥ IntKind.u64.wrap e.2)) else (bif i.op == (22 : Int) then (bif decide (i.imm < IntKind.u64.wrap e.1) then true else decide (i.imm ≥ IntKind.u64.wrap e.2)) else (bif i.op == (23 : Int) then decide (i.imm ≥ IntKind.u64.wrap (p.funs.length : Int)) else false))) = false → (i.op = 21 ∨ i.op = 22 → IntKind.u64.wrap e.1 ≤ i.imm ∧ i.imm < IntKind.u64.wrap e.2) := by
    intro h ho
    have h' : (bif decide (i.imm < IntKind.u64.wrap e.1) then true else decide (i.imm ≥ IntKind.u64.wrap e.2)) = false := by
      rcases ho with ho | ho
      · rw [ho] at h; exact h
      · rw [ho] at h; exact h
    cases h1 : decide (i.imm < IntKind.u64.wrap e.1) with
    | true => rw [h1] at h'; cases h'
    | false =>
      rw [h1] at h'
      have h1 := of_decide_eq_false h1
      have h2 := of_decide_eq_false (show decide (i.imm ≥ IntKind.u64.wrap e.2) = false from h')
      exact ⟨by omega, by omega⟩
  cases hg : goes_s i.op with
  | false =>
    rw [hg] at h
    exact ⟨fun h' => absurd h' (by decide), key h⟩
  | true =>
    rw [hg] at h
    cases h1 : decide ((j : Int) + 1 ≥ e.2) with
    | true => rw [h1] at h; cases h
    | false =>
      rw [h1] at h
      exact ⟨fun _ => by have := of_decide_eq_false h1; omega, key h⟩
theorem eachL_bad {p : Img} {inp : List Int} {pl : Int} {regs : Nat → Int} {mem os : List Int} {i : Ins} {x : Int} {n : Nat} {A : Int} (hc : i.c = (n : Int)) (hn : n ≤ 8) (hm : mem.length ≤ 64) (hA : IntKind.u64.wrap (regs i.b.toNat + i.imm) = A) (hfit : (mem.length : Int) < n ∨ A > IntKind.u64.wrap ((mem.length : Int) - n)) :
    eachL_s p inp pl regs mem os i x = (false, x) := by
  unfold eachL_s
  rw [hA, hc]
  by_cases c : mem.length < n
  · rw [decide_eq_true (by rw [wrap_u64, wrap_u64]; omega)]; rfl
  · rw [decide_eq_false (by rw [wrap_u64, wrap_u64]; omega)]
    simp only [cond_false]
    have h2 := hfit.resolve_left (by omega)
    rw [wrap_u64] at h2
    rw [decide_eq_true (by rw [wrap_u64, wrap_u64, wrap_u64]; omega)]; rfl
/-- The number of n bytes from a place on, the lowest first. -/
def numAt (mem : List Int) : Nat → Nat → Int
  | _, 0 => 0
  | A, n + 1 => mem.getD A 0 + 256 * numAt mem (A + 1) n
theorem byte_at {mem : List Int} (hB : Bytes mem) (A : Nat) : 0 ≤ mem.getD A 0 ∧ mem.getD A 0 ≤ 255 := by
  by_cases h : A < mem.length
  · rw [List.getD_eq_getElem?_getD, List.getElem?_eq_getElem h]
    exact hB _ (List.getElem_mem h)
  · rw [List.getD_eq_getElem?_getD, List.getElem?_eq_none (by omega)]
    exact ⟨Int.le_refl _, by decide⟩
theorem numAt_rng {mem : List Int} (hB : Bytes mem) : ∀ (n A : Nat), 0 ≤ numAt mem A n ∧ numAt mem A n < 2 ^ (8 * n)
  | 0, A => by show (0 : Int) ≤ 0 ∧ (0 : Int) < 2 ^ (8 * 0); decide
  | n + 1, A => by
    have h1 := byte_at hB A
    have h2 := numAt_rng hB n (A + 1)
    rw [show 8 * (n + 1) = 8 * n + 8 by omega, Int.pow_add]
    unfold numAt
    generalize numAt mem (A + 1) n = z at *
    generalize (2 : Int) ^ (8 * n) = q at *
    omega
theorem numAt_div {mem : List Int} (hB : Bytes mem) : ∀ (k A n : Nat), k ≤ n → numAt mem A n / 2 ^ (8 * k) = numAt mem (A + k) (n - k)
  | 0, A, n, _ => by simp
  | k + 1, A, n, h => by
    obtain ⟨n, rfl⟩ : ∃ m, n = m + 1 := ⟨n - 1, by omega⟩
    have h1 := byte_at hB A
    have ih := numAt_div hB k (A + 1) n (by omega)
    have e : numAt mem A (n + 1) / 2 ^ (8 * (k + 1)) = numAt mem (A + 1) n / 2 ^ (8 * k) := by
      rw [show 8 * (k + 1) = 8 + 8 * k by omega, Int.pow_add, ← Int.ediv_ediv_of_nonneg (by decide)]
      congr 1
      rw [show numAt mem A (n + 1) = mem.getD A 0 + 256 * numAt mem (A + 1) n from rfl]
      generalize numAt mem (A + 1) n = z
      omega
    rw [e, ih, show A + 1 + k = A + (k + 1) by omega, show n + 1 - (k + 1) = n - k by omega]
theorem numAt_byte {mem : List Int} (hB : Bytes mem) {A n j : Nat} (hj : j < n) : mem.getD (A + j) 0 = byteN (numAt mem A n) j := by
  unfold byteN
  rw [numAt_div hB j A n (by omega)]
  obtain ⟨d, hd⟩ : ∃ d, n - j = d + 1 := ⟨n - j - 1, by omega⟩
  rw [hd]
  have h1 := byte_at hB (A + j)
  unfold numAt
  generalize numAt mem (A + j + 1) d = z
  omega
theorem rmem_l0_is {i : Ins} {pl : Int} {regs : Nat → Int} {mem os : List Int} (hB : Bytes mem) {n A : Nat} (hc : i.c = (n : Int)) (hn : n ≤ 8) (hA : IntKind.u64.wrap (regs i.b.toNat + i.imm) = (A : Int)) : ∀ (m k : Nat), k ≤ n → k < m → rmem_l0 i pl regs mem os m (numAt mem (A + k) (n - k)) ((k : Int) - 1) = (pl + 1, upd regs i.a.toNat (numAt mem A n), mem, 0) := by
  intro m
  induction m with
  | zero => intro k _ hm; exact absurd hm (Nat.not_lt_zero _)
  | succ m ih =>
    intro k hk hm
    rw [rmem_l0]
    cases k with
    | zero => rw [decide_eq_false (by omega)]; rfl
    | succ k =>
      rw [show (((k + 1 : Nat) : Int) - 1) = (k : Int) by omega, decide_eq_true (Int.natCast_nonneg k), hA, show ((A : Int) + (k : Int)).toNat = A + k by omega]
      simp only [cond_true]
      have hb := byte_at hB (A + k)
      obtain ⟨d, hd⟩ : ∃ d, n - (k + 1) = d := ⟨_, rfl⟩
      have hr := numAt_rng hB d (A + (k + 1))
      have hp : (2 : Int) ^ (8 * d) ≤ 2 ^ 56 := by
        rw [pow_cast, pow_cast]
        exact Int.ofNat_le.2 (Nat.pow_le_pow_right (by decide) (by omega))
      have e : numAt mem (A + k) (n - k) = mem.getD (A + k) 0 + 256 * numAt mem (A + (k + 1)) d := by
        rw [show n - k = d + 1 by omega]; rfl
      have := ih k (by omega) (by omega)
      rw [e] at this
      rw [hd]
      generalize numAt mem (A + (k + 1)) d = z at *
      generalize mem.getD (A + k) 0 = y at *
      rw [show IntKind.u64.wrap (IntKind.u64.wrap (z * 256) + IntKind.u64.wrap y) = y + 256 * z by rw [wrap_u64, wrap_u64, wrap_u64]; omega]
      exact this
theorem save_both {p : Img} {inp : List Int} {i : Ins} {pl : Int} {regs : Nat → Int} {mem os : List Int} {x : Int} (hx : 0 ≤ x ∧ x < 18446744073709551616) {n A : Nat} (hc : i.c = (n : Int)) (hn : n ≤ 8) (hA : IntKind.u64.wrap (regs i.b.toNat + i.imm) = (A : Int)) : ∀ (m k : Nat) (ms : List Int), k ≤ n → n - k < m → ∃ ms', eachS_l0 p inp pl regs mem os i x m k ms = (true, ms') ∧ rmem_l1 i pl regs mem os m (x / 2 ^ (8 * k)) k ms = (pl + 1, regs, ms', 0) := by
  intro m
  induction m with
  | zero => intro k ms _ hm; exact absurd hm (Nat.not_lt_zero _)
  | succ m ih =>
    intro k ms hk hm
    rw [eachS_l0, rmem_l1, hc, hA]
    by_cases c : k < n
    · rw [decide_eq_true (show (k : Int) < (n : Int) by omega)]
      simp only [cond_true]
      rw [show ((A : Int) + (k : Int)).toNat = A + k by omega, sv_step hx.1 k _ (by omega)]
      have h0 : 0 ≤ x / 2 ^ (8 * k) := Int.ediv_nonneg hx.1 (Int.le_of_lt (Int.pow_pos (by decide)))
      have hle : x / 2 ^ (8 * k) ≤ x := Int.ediv_le_self _ hx.1
      have e1 : IntKind.u8.wrap ((x / 2 ^ (8 * k)).tmod 256) = byteN x k := by
        unfold byteN
        rw [wrap_u8, Int.tmod_eq_emod_of_nonneg h0]; omega
      have e2 : IntKind.u64.wrap ((x / 2 ^ (8 * k)).tdiv 256) = x / 2 ^ (8 * (k + 1)) := by
        rw [Int.tdiv_eq_ediv_of_nonneg h0, show 8 * (k + 1) = 8 * k + 8 by omega, Int.pow_add, ← Int.ediv_ediv_of_nonneg (Int.le_of_lt (Int.pow_pos (by decide)))]
        generalize x / 2 ^ (8 * k) = z at *
        rw [wrap_u64]
        omega
      rw [e1, e2, show ((k : Int) + 1) = ((k + 1 : Nat) : Int) from rfl]
      exact ih (k + 1) _ (by omega) (by omega)
    · rw [decide_eq_false (show ¬ (k : Int) < (n : Int) by omega)]
      exact ⟨ms, rfl, rfl⟩
theorem rthr_eq {size n : Nat} {A : Int} (hs : size ≤ 64) (hn : n ≤ 8) : rthr_s (size : Int) A (n : Int) = decide (n ≤ size ∧ A ≤ (size : Int) - n) := by
  unfold rthr_s
  by_cases h : n ≤ size
  · rw [decide_eq_true (by omega), show IntKind.u64.wrap ((size : Int) - (n : Int)) = (size : Int) - n by rw [wrap_u64]; omega]
    exact decide_eq_decide.2 ⟨fun h2 => ⟨h, h2⟩, fun h2 => h2.2⟩
  · rw [decide_eq_false (by omega)]
    exact (decide_eq_false (fun h2 => h h2.1)).symm
theorem mem_same {p : Img} {inp : List Int} {i : Ins} {pl : Int} {regs : Nat → Int} {mem os : List Int} (hm : mem.length ≤ 64) (hB : Bytes mem) (hR : ∀ j, j < 8 → 0 ≤ regs j ∧ regs j < 18446744073709551616) (ha : 0 ≤ i.a ∧ i.a < 8) (hb : 0 ≤ i.b ∧ i.b < 8) (hc : 0 ≤ i.c ∧ i.c ≤ 8) :
    (i.op = 17 → d_load_s p inp pl regs mem os i = ((rmem_s i pl regs mem os).2.2.2, (rmem_s i pl regs mem os).1, (rmem_s i pl regs mem os).2.1, (rmem_s i pl regs mem os).2.2.1, os)) ∧ (i.op = 18 → d_save_s p inp pl regs mem os i = ((rmem_s i pl regs mem os).2.2.2, (rmem_s i pl regs mem os).1, (rmem_s i pl regs mem os).2.1, (rmem_s i pl regs mem os).2.2.1, os)) := by
  obtain ⟨n, hn⟩ : ∃ n : Nat, i.c = n := ⟨i.c.toNat, by omega⟩
  have hAr := wrap_u64_rng (regs i.b.toNat + i.imm)
  obtain ⟨A, hA⟩ : ∃ A : Nat, IntKind.u64.wrap (regs i.b.toNat + i.imm) = A := ⟨(IntKind.u64.wrap (regs i.b.toNat + i.imm)).toNat, by omega⟩
  have hn8 : n ≤ 8 := by omega
  unfold rmem_s
  rw [hA, hn, rthr_eq hm hn8]
  by_cases fit : n ≤ mem.length ∧ (A : Int) ≤ (mem.length : Int) - n
  · rw [decide_eq_true fit]
    simp only [Bool.not_true, cond_false]
    constructor
    · intro ho
      rw [ho, show ((17 : Int) == 17) = true from rfl]
      simp only [cond_true]
      have h0 := numAt_rng hB n A
      have hr := rmem_l0_is (pl := pl) (os := os) hB hn hn8 hA ((((n : Int) - 1) + 1).toNat + 1) n (Nat.le_refl _) (by omega)
      rw [Nat.sub_self] at hr
      have hr : rmem_l0 i pl regs mem os ((((n : Int) - 1) + 1).toNat + 1) 0 ((n : Int) - 1) = (pl + 1, upd regs i.a.toNat (numAt mem A n), mem, 0) := hr
      rw [hr]
      have he := eachL_good (p := p) (inp := inp) (pl := pl) (os := os) (mem0 := mem) h0.1 hn hn8 hm hA (by omega) ⟨rfl, fun j hj => numAt_byte hB hj, rfl, rfl⟩
      unfold d_load_s
      rw [he, Int.emod_eq_of_lt h0.1 h0.2]
      rfl
    · intro ho
      rw [ho, show ((18 : Int) == 17) = false from rfl]
      simp only [cond_false]
      obtain ⟨ms, e1, e2⟩ := save_both (p := p) (inp := inp) (pl := pl) (mem := mem) (os := os) (hR i.a.toNat (by omega)) hn hn8 hA (((n : Int) - ((0) : Int)).toNat + 1) 0 mem (Nat.zero_le _) (by omega)
      have e2 : rmem_l1 i pl regs mem os (((n : Int) - ((0) : Int)).toNat + 1) (regs i.a.toNat) 0 ([] ++ mem) = (pl + 1, regs, ms, 0) := by
        rw [show regs i.a.toNat / 2 ^ (8 * 0) = regs i.a.toNat by simp] at e2
        exact e2
      rw [e2]
      unfold d_save_s eachS_s
      rw [hA, hn, decide_eq_false (by rw [wrap_u64, wrap_u64]; omega)]
      simp only [cond_false]
      rw [decide_eq_false (by rw [wrap_u64, wrap_u64, wrap_u64]; omega)]
      simp only [cond_false]
      have e1 : eachS_l0 p inp pl regs mem os i (regs i.a.toNat) (((n : Int) - ((0) : Int)).toNat + 1) 0 mem = (true, ms) := e1
      rw [e1]
      rfl
  · rw [decide_eq_false fit]
    simp only [Bool.not_false, cond_true]
    have hbad : (mem.length : Int) < n ∨ (A : Int) > IntKind.u64.wrap ((mem.length : Int) - n) := by rw [wrap_u64]; omega
    constructor
    · intro _
      unfold d_load_s
      rw [eachL_bad hn hn8 hm hA hbad]
      rfl
    · intro _
      unfold d_save_s
      rw [eachS_bad hn hn8 hm hA hbad]
      rfl
theorem leap' {p : Img} (r : Rt p) {x : Int} (h0 : 0 ≤ x) (h1 : x < p.code.length) (hs : strayf_s p x = false) (ho : (p.code.getD x.toNat default).op = 21 ∨ (p.code.getD x.toNat default).op = 22) : 0 ≤ (p.code.getD x.toNat default).imm ∧ (p.code.getD x.toNat default).imm < p.code.length := by
  obtain ⟨j, rfl⟩ : ∃ j : Nat, x = j := ⟨x.toNat, by omega⟩
  rw [Int.toNat_natCast] at ho ⊢
  have e := ends_is r h0 h1
  have s := (strayf_t hs).2 ho
  have hc := r.code
  rw [wrap_u64, wrap_u64] at s
  exact ⟨by omega, by omega⟩
theorem one_same {p : Img} (r : Rt p) (V : ValidP p) (hst : ∀ j, j < p.code.length → strayf_s p j = false) {inp : List Int} {pl : Int} {regs : Nat → Int} {mem os : List Int} (h0 : 0 ≤ pl) (h1 : pl < p.code.length) (hm : mem.length ≤ 64) (hB : Bytes mem) (hR : ∀ j, j < 8 → 0 ≤ regs j ∧ regs j < 18446744073709551616) :
    one_s p inp pl regs mem os = ((rstp_s p inp pl regs mem os).2.2.2.2, (rstp_s p inp pl regs mem os).1, (rstp_s p inp pl regs mem os).2.1, (rstp_s p inp pl regs mem os).2.2.1, (rstp_s p inp pl regs mem os).2.2.2.1) := by
  have hs : strayf_s p pl = false := by have := hst pl.toNat (by omega); rwa [show ((pl.toNat : Nat) : Int) = pl by omega] at this
  have hl := leap' r h0 h1 hs
  have hv := V.ins pl.toNat (by omega)
  have hc := r.code
  unfold one_s rstp_s
  generalize p.code.getD pl.toNat default = i at hv hl ⊢
  have hop := hv.op
  have ha := hv.a
  have hb := hv.b
  rw [decide_eq_false (show ¬ pl < 0 by omega), decide_eq_false (show ¬ pl ≥ (p.code.length : Int) by omega)]
  simp only [cond_false]
  have b : ∀ k : Int, i.op ≠ k → (i.op == k) = false := fun k h => by simpa using h
  by_cases hq : 3 ≤ i.op ∧ i.op ≤ 16
  · rw [decide_eq_true hq]
    simp only [b 0 (by omega), b 1 (by omega), b 2 (by omega), b 17 (by omega), b 18 (by omega), b 19 (by omega), b 20 (by omega), b 21 (by omega), b 22 (by omega), b 23 (by omega), b 24 (by omega), b 25 (by omega), cond_true, cond_false]
    have hc8 := hv.c8 (by omega) (by omega)
    rw [show IntKind.i64.wrap (i.op + 5) = i.op + 5 from wrap_i64_id ⟨by omega, by omega⟩, ← word_same (i.op + 5) 64 (hR i.b.toNat (by omega)) (hR i.c.toNat (by omega))]
    unfold d_apply_s put1_s rwth_s
    cases (regs i.c.toNat == (0 : Int)) <;> cases (i.op == (6 : Int)) <;> cases (i.op == (7 : Int)) <;> rfl
  · rw [decide_eq_false hq]
    have hms := mem_same (p := p) (inp := inp) (pl := pl) (os := os) (i := i) hm hB hR ha hb
    have hw := hv.w
    obtain ⟨op, a, b', c, imm⟩ := i
    simp only at *
    rcases (show op = 0 ∨ op = 1 ∨ op = 2 ∨ op = 17 ∨ op = 18 ∨ op = 19 ∨ op = 20 ∨ op = 21 ∨ op = 22 ∨ op = 23 ∨ op = 24 ∨ op = 25 by omega) with rfl | rfl | rfl | rfl | rfl | rfl | rfl | rfl | rfl | rfl | rfl | rfl
    · rfl
    · rfl
    · rfl
    · simp only [Int.reduceBEq, Int.reduceEq, decide_false, decide_true, cond_true, cond_false]
      rw [(hms (hw (.inl rfl))).1 rfl]
    · simp only [Int.reduceBEq, Int.reduceEq, decide_false, decide_true, cond_true, cond_false]
      rw [(hms (hw (.inr rfl))).2 rfl]
    · simp only [Int.reduceBEq, Int.reduceEq, decide_false, decide_true, cond_true, cond_false]
      unfold d_take_s put1_s rwth_s
      simp only
      cases decide (IntKind.u64.wrap (regs b'.toNat + imm) ≥ IntKind.u64.wrap (inp.length : Int)) <;> rfl
    · rfl
    · have := hl (.inl rfl)
      show _ = ((rflo_s p ⟨21, a, b', c, imm⟩ pl regs mem os).2.2, _)
      simp only [Int.reduceBEq, Int.reduceEq, decide_false, decide_true, cond_true, cond_false]
      unfold d_jump_s rflo_s
      simp only [Int.reduceBEq, cond_true, cond_false]
      rw [wrap_i64_id ⟨by omega, by omega⟩]
    · have := hl (.inr rfl)
      simp only [Int.reduceBEq, Int.reduceEq, decide_false, decide_true, cond_true, cond_false]
      unfold d_branch_s d_jump_s rflo_s
      simp only [Int.reduceBEq, cond_true, cond_false]
      rw [wrap_i64_id ⟨by omega, by omega⟩]
      cases (regs a.toNat != (0 : Int)) <;> rfl
    · simp only [Int.reduceBEq, Int.reduceEq, decide_false, decide_true, cond_true, cond_false]
      unfold d_call_s rflo_s
      simp only [Int.reduceBEq, cond_true, cond_false, List.nil_append]
      cases decide ((os.length : Int) ≥ p.stack) <;> rfl
    · simp only [Int.reduceBEq, Int.reduceEq, decide_false, decide_true, cond_true, cond_false]
      unfold d_back_s rflo_s
      simp only [Int.reduceBEq, cond_true, cond_false, List.nil_append, List.drop_zero]
      by_cases hz : os.length = 0
      · rw [decide_eq_true (show (os.length : Int) - 1 < 0 by omega), show ((os.length : Int) == 0) = true by simp [hz]]; rfl
      · rw [decide_eq_false (show ¬ (os.length : Int) - 1 < 0 by omega), show ((os.length : Int) == 0) = false by simp [hz]]; rfl
    · rfl
theorem step_same {p : Img} (r : Rt p) (V : ValidP p) (hst : ∀ j, j < p.code.length → strayf_s p j = false) {inp : List Int} {pl : Int} {regs : Nat → Int} {mem os : List Int} (hw : whole_s p pl regs mem os = true) (h0 : 0 ≤ pl) (h1 : pl < p.code.length) (hm : mem.length ≤ 64) (hB : Bytes mem) (hR : ∀ j, j < 8 → 0 ≤ regs j ∧ regs j < 18446744073709551616) :
    step_s p inp pl regs mem os = rstp_s p inp pl regs mem os := by
  unfold step_s
  rw [hw, one_same r V hst h0 h1 hm hB hR]
  rfl
theorem fun_pos {p : Img} {x : Int} (h : ¬ fun_s p x < 0) : 0 ≤ x ∧ x < p.code.length := by
  unfold fun_s at h
  by_cases c : x < 0
  · rw [decide_eq_true c] at h; exact absurd (show (-1 : Int) < 0 by decide) h
  · rw [decide_eq_false c] at h
    by_cases d : x ≥ (p.code.length : Int)
    · rw [decide_eq_true d] at h; exact absurd (show (-1 : Int) < 0 by decide) h
    · exact ⟨by omega, by omega⟩
theorem rrig_l0_t {p : Img} {pl : Int} {regs : Nat → Int} {mem os : List Int} : ∀ (m k : Nat), rrig_l0 p pl regs mem os m k = true → os.length - k < m → ∀ j, k ≤ j → j < os.length → ¬ fun_s p (os.getD j 0) < 0 := by
  intro m
  induction m with
  | zero => intro k _ hm; exact absurd hm (Nat.not_lt_zero _)
  | succ m ih =>
    intro k h hm j h2 h3
    rw [rrig_l0, decide_eq_true (by omega), Int.toNat_natCast, rfun_eq] at h
    simp only [cond_true] at h
    rcases bifT h with ⟨_, h⟩ | ⟨h4, h⟩
    · cases h
    · by_cases e : j = k
      · subst e; exact of_decide_eq_false h4
      · exact ih (k + 1) h (by omega) j (by omega) h3
theorem idxw_l0_no {p : Img} {l : List Int} (h : ∀ j, j < l.length → ¬ fun_s p (l.getD j 0) < 0) : ∀ (m k : Nat), l.length - k < m → idxw_l0 p l m k = -1 := by
  intro m
  induction m with
  | zero => intro k hm; exact absurd hm (Nat.not_lt_zero _)
  | succ m ih =>
    intro k hm
    rw [idxw_l0]
    by_cases c : k < l.length
    · rw [decide_eq_true (show (k : Int) < l.length by omega), Int.toNat_natCast]
      simp only [cond_true]
      rw [show wclo_s p (l.getD k 0) = false from decide_eq_false (h k c)]
      exact ih (k + 1) (by omega)
    · rw [decide_eq_false (show ¬ (k : Int) < l.length by omega)]; rfl
/-- A state that is right by the document is whole. -/
theorem rrig_whole {p : Img} {pl : Int} {regs : Nat → Int} {mem os : List Int} (he : (encode_s p).2 = 0) (h : rrig_s p pl regs mem os = true) : whole_s p pl regs mem os = true ∧ (0 ≤ pl ∧ pl < p.code.length) ∧ (mem.length : Int) = p.mem ∧ (os.length : Int) ≤ p.stack := by
  unfold rrig_s at h
  rw [rfun_eq] at h
  rcases bifT h with ⟨_, h⟩ | ⟨h1, h⟩
  · cases h
  rcases bifT h with ⟨_, h⟩ | ⟨h2, h⟩
  · cases h
  rcases bifT h with ⟨_, h⟩ | ⟨h3, h⟩
  · cases h
  have h1 := of_decide_eq_false h1
  have h3' := of_decide_eq_false h3
  have ho := rrig_l0_t _ 0 (show rrig_l0 p pl regs mem os _ ((0 : Nat) : Int) = true from h) (by omega)
  refine ⟨?_, fun_pos h1, by simpa using h2, by omega⟩
  unfold whole_s
  rw [he, h2, h3]
  simp only [bne_self_eq_false, cond_false]
  unfold conw_s idxw_s
  have := idxw_l0_no (p := p) (l := [pl] ++ os) (fun j hj => by
    cases j with
    | zero => exact h1
    | succ j => exact ho j (Nat.zero_le _) (by simpa using hj)) ((([pl] : List Int) ++ os).length - ((0) : Int).toNat + 1) 0 (by simp)
  rw [show ((0 : Nat) : Int) = 0 from rfl] at this
  rw [this]
  rfl
end Go.Proofs.Yteolbecihipcaaa.Sx.M5
