/- Layer 2 (code): what bytes tell. -/
import Derived.Test.YthfgakbigpnkhaaQ1
import Derived.Laws.BitsLemmas
open Go Go.Proofs Go.RowKit
namespace Go.Proofs.Ythfgakbigpnkhaa.Sx.C3
set_option linter.unusedVariables false
set_option linter.unusedSimpArgs false
abbrev zeroIns : Ins := ⟨0, 0, 0, 0, 0⟩
def tell (i : Ins) : Ins × Int × Int := bif known_s i.op then (bif W i == 0 then (i, 0, 0) else (zeroIns, 5, W i)) else (zeroIns, 4, 0)
def tail8 (l : List Int) : List Int := (l.take 12).drop 4
def insOf (l : List Int) : Ins := ⟨l.getD 0 0, l.getD 1 0, l.getD 2 0, l.getD 3 0, val (tail8 l)⟩
def getS (l : List Int) : Ins × Int × Int := bif decide ((l.length : Int) < 12) then (zeroIns, 1, (l.length : Int)) else tell (insOf l)
theorem tail8_len {l : List Int} (h : 12 ≤ l.length) : (tail8 l).length = 8 := by unfold tail8; rw [List.length_drop, List.length_take]; omega
theorem tail8_byt {l : List Int} (h : Bytes l) : Bytes (tail8 l) := fun x hx => h x (List.mem_of_mem_take (List.mem_of_mem_drop hx))
def go (x : Int) (l : List Int) : Int := l.foldl (fun x b => x * 256 + b) x
theorem w64 {n : Int} (h0 : 0 ≤ n) (h1 : n < 18446744073709551616) : IntKind.u64.wrap n = n := by
  simp [IntKind.wrap, IntKind.bits, IntKind.signed]
  omega
theorem shl_or {x b : Int} (h0 : 0 ≤ x) (h1 : x < 72057594037927936) (hb : 0 ≤ b ∧ b ≤ 255) : Go.bits .or .u64 (IntKind.u64.wrap (x * 2 ^ 8)) (IntKind.u64.wrap b) = x * 256 + b := by
  rw [show x * 2 ^ 8 = x * 256 from rfl, w64 (by omega) (by omega), w64 hb.1 (by omega)]
  exact bits_join .u64 64 (by decide) (fun n h0 h1 => w64 h0 h1) 8 (x * 256) b (by omega) (by show x * 256 % 256 = 0; omega) (by show x * 256 < 18446744073709551616; omega) hb.1 (by show b < 256; omega) (by show b < 18446744073709551616; omega)
theorem getD_cons_drop {l : List Int} {i : Nat} (h : i < l.length) : l.drop i = l.getD i 0 :: l.drop (i + 1) := by
  rw [List.drop_eq_getElem_cons h, List.getD_eq_getElem?_getD, List.getElem?_eq_getElem h]; rfl
theorem pow_lt (j : Nat) (hj : j ≤ 7) {x : Int} (h : x < 2 ^ (8 * j)) : x < 72057594037927936 := by
  have : (2 : Int) ^ (8 * j) ≤ 2 ^ 56 := by
    match j, hj with
    | 0, _ => decide
    | 1, _ => decide
    | 2, _ => decide
    | 3, _ => decide
    | 4, _ => decide
    | 5, _ => decide
    | 6, _ => decide
    | 7, _ => decide
  have e : (2 : Int) ^ 56 = 72057594037927936 := by decide
  omega
theorem pow_up (j : Nat) {x b : Int} (h : x < 2 ^ (8 * j)) (hb : b ≤ 255) : x * 256 + b < 2 ^ (8 * (j + 1)) := by
  rw [show 8 * (j + 1) = 8 * j + 8 from rfl, Int.pow_add, show (2 : Int) ^ 8 = 256 from rfl]; omega
theorem get_loop {b : List Int} (hb : Bytes b) (hl : 12 ≤ b.length) : ∀ (d m i : Nat) (imm : Int), i + d = 8 → d < m → 0 ≤ imm → imm < 2 ^ (8 * i) →
    get_l0 b m i imm = tell ⟨b.getD 0 0, b.getD 1 0, b.getD 2 0, b.getD 3 0, go imm ((tail8 b).drop i)⟩ := by
  intro d
  induction d with
  | zero =>
    intro m i imm hi hm h0 h1
    obtain ⟨m, rfl⟩ : ∃ k, m = k + 1 := ⟨m - 1, by omega⟩
    have hT := tail8_len hl
    have hd : (tail8 b).drop i = [] := List.drop_eq_nil_of_le (by omega)
    unfold tail8 at hT
    rw [get_l0, hT, decide_eq_false (by omega), hd]
    unfold tell go
    simp only [cond_false, List.foldl_nil]
    cases hk : known_s (b.getD 0 0) with
    | false => rfl
    | true =>
      have := known_t hk
      rw [wrong_eq (i := ⟨b.getD 0 0, b.getD 1 0, b.getD 2 0, b.getD 3 0, imm⟩) this.1 this.2]
      simp only [Bool.not_true, cond_false, cond_true, bne]
      cases (W ⟨b.getD 0 0, b.getD 1 0, b.getD 2 0, b.getD 3 0, imm⟩ == (0 : Int)) <;> rfl
  | succ d ih =>
    intro m i imm hi hm h0 h1
    obtain ⟨m, rfl⟩ : ∃ k, m = k + 1 := ⟨m - 1, by omega⟩
    have hT := tail8_len hl
    have hg := getD_b (tail8_byt hb) i
    rw [getD_cons_drop (l := tail8 b) (i := i) (by omega)]
    unfold tail8 at hT hg
    rw [get_l0, hT, decide_eq_true (by omega)]
    simp only [cond_true]
    rw [Int.toNat_natCast, shl_or h0 (pow_lt i (by omega) h1) hg, show ((i : Int) + 1) = ((i + 1 : Nat) : Int) from rfl, ih m (i + 1) _ (by omega) (by omega) (by omega) (pow_up i h1 hg.2)]
    rfl
theorem get_eq {b : List Int} (hb : Bytes b) : get_s b = getS b := by
  unfold get_s getS
  cases h : decide ((b.length : Int) < 12) with
  | true => rfl
  | false =>
    have hl := of_decide_eq_false h
    simp only [cond_false]
    exact get_loop hb (by omega) 8 _ 0 0 rfl (by simp; omega) (by decide) (by decide)
theorem raw_loop {b : List Int} (hb : Bytes b) (hl : 12 ≤ b.length) : ∀ (d m i : Nat) (imm : Int), i + d = 8 → d < m → 0 ≤ imm → imm < 2 ^ (8 * i) →
    raw_l0 b m ((i : Int) + 4) imm = ⟨b.getD 0 0, b.getD 1 0, b.getD 2 0, b.getD 3 0, go imm ((tail8 b).drop i)⟩ := by
  intro d
  induction d with
  | zero =>
    intro m i imm hi hm h0 h1
    obtain ⟨m, rfl⟩ : ∃ k, m = k + 1 := ⟨m - 1, by omega⟩
    have hd : (tail8 b).drop i = [] := List.drop_eq_nil_of_le (by have := tail8_len hl; omega)
    rw [raw_l0, decide_eq_false (by omega), hd]
    rfl
  | succ d ih =>
    intro m i imm hi hm h0 h1
    obtain ⟨m, rfl⟩ : ∃ k, m = k + 1 := ⟨m - 1, by omega⟩
    have hT := tail8_len hl
    have hg := getD_b hb (i + 4)
    have hq := pow_lt i (by omega) h1
    rw [getD_cons_drop (l := tail8 b) (i := i) (by omega)]
    have e : (tail8 b).getD i 0 = b.getD (i + 4) 0 := by
      unfold tail8
      rw [List.getD_eq_getElem?_getD, List.getElem?_drop, List.getElem?_take, if_pos (by omega), ← List.getD_eq_getElem?_getD, Nat.add_comm]
    rw [e, raw_l0, decide_eq_true (by omega), show ((i : Int) + 4).toNat = i + 4 by omega]
    simp only [cond_true]
    rw [w64 (n := imm * 256) (by omega) (by omega), w64 hg.1 (by omega), w64 (by omega) (by omega), show ((i : Int) + 4 + 1) = ((i + 1 : Nat) : Int) + 4 by omega, ih m (i + 1) _ (by omega) (by omega) (by omega) (pow_up i h1 hg.2)]
    rfl
theorem raw_eq {b : List Int} (hb : Bytes b) (hl : 12 ≤ b.length) : raw_s b = insOf b := by
  unfold raw_s
  exact raw_loop hb hl 8 _ 0 0 rfl (by decide) (by decide) (by decide)
theorem rget_eq {b : List Int} (hb : Bytes b) : rget_s b = getS b := by
  unfold rget_s getS
  cases h : decide ((b.length : Int) < 12) with
  | true => rfl
  | false =>
    have hl := of_decide_eq_false h
    simp only [cond_false]
    rw [raw_eq hb (by omega), rwrong_eq]
    unfold W2 tell
    rw [known_iff]
    cases decide (0 ≤ (insOf b).op ∧ (insOf b).op < 26) with
    | false => rfl
    | true =>
      simp only [cond_true]
      have hr := W_range (insOf b)
      cases hw : (W (insOf b) == (0 : Int)) with
      | false =>
        have hne : W (insOf b) ≠ 0 := by simpa using hw
        simp only [cond_false]
        rw [hw, decide_eq_true (by omega)]; rfl
      | true =>
        simp only [cond_true]
        rw [show ((-1 : Int) == 0) = false from rfl, decide_eq_false (by omega)]; rfl
/-- What the errors of an instruction's bytes are. -/
theorem getS_err {b : List Int} : ((getS b).2.1 = 0 ∧ (getS b).2.2 = 0 ∧ 12 ≤ b.length) ∨ ((getS b).2.1 = 1 ∧ (getS b).2.2 = b.length ∧ b.length < 12) ∨ ((getS b).2.1 = 4 ∧ (getS b).2.2 = 0 ∧ 12 ≤ b.length) ∨ ((getS b).2.1 = 5 ∧ 0 ≤ (getS b).2.2 ∧ (getS b).2.2 ≤ 4 ∧ 12 ≤ b.length) := by
  unfold getS tell
  have hr := W_range (insOf b)
  by_cases h : (b.length : Int) < 12
  · rw [decide_eq_true h]; exact .inr (.inl ⟨rfl, rfl, by omega⟩)
  · rw [decide_eq_false h]
    simp only [cond_false]
    cases known_s (insOf b).op with
    | false => exact .inr (.inr (.inl ⟨rfl, rfl, by omega⟩))
    | true =>
      cases (W (insOf b) == (0 : Int)) with
      | true => exact .inl ⟨rfl, rfl, by omega⟩
      | false => exact .inr (.inr (.inr ⟨rfl, hr.1, hr.2, by omega⟩))
end Go.Proofs.Ythfgakbigpnkhaa.Sx.C3
