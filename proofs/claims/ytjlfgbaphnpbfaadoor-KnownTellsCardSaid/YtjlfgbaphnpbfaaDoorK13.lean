/- KnownTells: rows bit by bit, and of OpEq. -/
import Derived.Test.YtjlfgbaphnpbfaaDoorK12
open Go Go.Proofs Go.RowKit
namespace Go.Proofs.YtjlfgbaphnpbfaaDoor.Sx.M5
set_option linter.unusedVariables false
set_option linter.unusedSimpArgs false
theorem pt_hi {W Z O j : Nat} (hz : Z < 2 ^ W) (ho : O < 2 ^ W) (hj : W ≤ j) : pt Z O j = 2 := by
  unfold pt
  rw [bit_hi hz hj, bit_hi ho hj]; rfl
theorem one_row {op : Int} {W zz oo : Nat} (hW : W ≤ 64) {x y : Nat → Int} (hz : zz < 2 ^ W) (ho : oo < 2 ^ W) (h : ∀ j, j < W → qone_s op (x j) (y j) = pt zz oo j) : RowIs (qrow_l0 op (W : Int) x y (((W : Int) - ((0) : Int)).toNat + 1) qnon_s 0) zz oo := by
  have key : ∀ (m i : Nat) (f : Nat → Int), (∀ j, j < i → f j = pt zz oo j) → (∀ j, i ≤ j → j < 64 → f j = 2) → i ≤ W → W - i < m → ∀ j, j < 64 → qrow_l0 op (W : Int) x y m f i j = pt zz oo j := by
    intro m
    induction m with
    | zero => intro i f _ _ _ hm; exact absurd hm (Nat.not_lt_zero _)
    | succ m ih =>
      intro i f hf hg hi hm j hj
      rw [qrow_l0]
      by_cases c : (i : Int) < (W : Int)
      · rw [decide_eq_true c, Int.toNat_natCast, h i (by omega)]
        refine ih (i + 1) _ (fun k hk => ?_) (fun k hk hk2 => ?_) (by omega) (by omega) j hj
        · rw [upd_at]; split
          · rename_i q; rw [q]
          · exact hf k (by omega)
        · rw [upd_at, if_neg (by omega)]; exact hg k (by omega) hk2
      · rw [decide_eq_false c]
        by_cases q : j < i
        · exact hf j q
        · show f j = _
          rw [hg j (by omega) hj, pt_hi hz ho (by omega)]
  intro j hj
  exact key _ 0 _ (fun j hj => absurd hj (Nat.not_lt_zero _)) (fun k _ hk => by rw [qnon_is k hk]; unfold pt; simp) (Nat.zero_le _) (by omega) j hj
section
variable {W Z O Y P : Nat} {x y : Nat → Int}
theorem row5 (hW : W ≤ 64) (h1 : OkB W Z O) (h2 : RowIs x Z O) : RowIs (qrow_s 5 (W : Int) x y) O Z ∧ OkB W O Z := by
  have dj : Dj O Z := fun j hj => by
    cases hz : Z.testBit j with
    | false => rfl
    | true => rw [h1.dj j hz] at hj; cases hj
  refine ⟨one_row hW h1.lo h1.lz (fun j hj => ?_), h1.lo, h1.lz, dj⟩
  rw [h2 j (by omega)]
  have d := h1.dj j
  unfold pt
  generalize y j = v
  cases hz : Z.testBit j <;> cases ho : O.testBit j <;> simp [hz, ho] at d ⊢ <;> rfl
theorem row13 (hW : W ≤ 64) (h1 : OkB W Z O) (h2 : RowIs x Z O) (h3 : OkB W Y P) (h4 : RowIs y Y P) : RowIs (qrow_s 13 (W : Int) x y) (Z ||| Y) (O &&& P) ∧ OkB W (Z ||| Y) (O &&& P) := by
  have lz : Z ||| Y < 2 ^ W := Nat.or_lt_two_pow h1.lz h3.lz
  have lo : O &&& P < 2 ^ W := Nat.and_lt_two_pow _ h3.lo
  refine ⟨one_row hW lz lo (fun j hj => ?_), lz, lo, fun j hj => ?_⟩
  · rw [h2 j (by omega), h4 j (by omega)]
    have d := h1.dj j
    have d2 := h3.dj j
    unfold pt
    rw [Nat.testBit_or, Nat.testBit_and]
    cases hz : Z.testBit j <;> cases ho : O.testBit j <;> cases hy : Y.testBit j <;> cases hp : P.testBit j <;> simp [hz, ho, hy, hp] at d d2 ⊢ <;> rfl
  · have d := h1.dj j
    have d2 := h3.dj j
    rw [Nat.testBit_or] at hj
    rw [Nat.testBit_and]
    cases hz : Z.testBit j <;> cases hy : Y.testBit j <;> simp [hz, hy] at d d2 hj ⊢ <;> simp [d, d2]
theorem row14 (hW : W ≤ 64) (h1 : OkB W Z O) (h2 : RowIs x Z O) (h3 : OkB W Y P) (h4 : RowIs y Y P) : RowIs (qrow_s 14 (W : Int) x y) (Z &&& Y) (O ||| P) ∧ OkB W (Z &&& Y) (O ||| P) := by
  have lz : Z &&& Y < 2 ^ W := Nat.and_lt_two_pow _ h3.lz
  have lo : O ||| P < 2 ^ W := Nat.or_lt_two_pow h1.lo h3.lo
  refine ⟨one_row hW lz lo (fun j hj => ?_), lz, lo, fun j hj => ?_⟩
  · rw [h2 j (by omega), h4 j (by omega)]
    have d := h1.dj j
    have d2 := h3.dj j
    unfold pt
    rw [Nat.testBit_or, Nat.testBit_and]
    cases hz : Z.testBit j <;> cases ho : O.testBit j <;> cases hy : Y.testBit j <;> cases hp : P.testBit j <;> simp [hz, ho, hy, hp] at d d2 ⊢ <;> rfl
  · have d := h1.dj j
    have d2 := h3.dj j
    rw [Nat.testBit_and] at hj
    rw [Nat.testBit_or]
    cases hz : Z.testBit j <;> cases hy : Y.testBit j <;> simp [hz, hy] at d d2 hj ⊢ <;> simp [d, d2]
def xorO (Z O Y P : Nat) : Nat := ((O ^^^ P) &&& (Z ||| O)) &&& (Y ||| P)
def xorZ (Z O Y P : Nat) : Nat := ((Z ||| O) &&& (Y ||| P)) &&& (2 ^ 64 - 1 - xorO Z O Y P)
theorem compl_bit {a j : Nat} (ha : a < 2 ^ 64) (hj : j < 64) : (2 ^ 64 - 1 - a).testBit j = !a.testBit j := by
  rw [← notN_eq ha, notN_bit, decide_eq_true hj]; rfl
theorem row15 (hW : W ≤ 64) (h1 : OkB W Z O) (h2 : RowIs x Z O) (h3 : OkB W Y P) (h4 : RowIs y Y P) : RowIs (qrow_s 15 (W : Int) x y) (xorZ Z O Y P) (xorO Z O Y P) ∧ OkB W (xorZ Z O Y P) (xorO Z O Y P) := by
  have lo : xorO Z O Y P < 2 ^ W := Nat.and_lt_two_pow _ (Nat.or_lt_two_pow h3.lz h3.lo)
  have lo64 : xorO Z O Y P < 2 ^ 64 := Nat.lt_of_lt_of_le lo (pow_le64 hW)
  have lz : xorZ Z O Y P < 2 ^ W := by
    unfold xorZ
    exact Nat.lt_of_le_of_lt Nat.and_le_left (Nat.and_lt_two_pow _ (Nat.or_lt_two_pow h3.lz h3.lo))
  have bz : ∀ j, j < 64 → (xorZ Z O Y P).testBit j = (((Z.testBit j || O.testBit j) && (Y.testBit j || P.testBit j)) && !(xorO Z O Y P).testBit j) := fun j hj => by
    unfold xorZ
    rw [Nat.testBit_and, Nat.testBit_and, Nat.testBit_or, Nat.testBit_or, compl_bit lo64 hj]
  have bo : ∀ j, (xorO Z O Y P).testBit j = (((O.testBit j ^^ P.testBit j) && (Z.testBit j || O.testBit j)) && (Y.testBit j || P.testBit j)) := fun j => by
    unfold xorO
    rw [Nat.testBit_and, Nat.testBit_and, Nat.testBit_xor, Nat.testBit_or, Nat.testBit_or]
  refine ⟨one_row hW lz lo (fun j hj => ?_), lz, lo, fun j hj => ?_⟩
  · rw [h2 j (by omega), h4 j (by omega)]
    have d := h1.dj j
    have d2 := h3.dj j
    unfold pt
    rw [bz j (by omega), bo j]
    cases hz : Z.testBit j <;> cases ho : O.testBit j <;> cases hy : Y.testBit j <;> cases hp : P.testBit j <;> simp [hz, ho, hy, hp] at d d2 ⊢ <;> rfl
  · have hj64 : j < 64 := by
      apply Classical.byContradiction
      intro h
      rw [bit_hi lz (by omega)] at hj; cases hj
    rw [bz j hj64] at hj
    cases hx : (xorO Z O Y P).testBit j with
    | false => rfl
    | true => rw [hx] at hj; simp at hj
theorem row19 (hW1 : 1 ≤ W) (hW : W ≤ 64) (h1 : OkB W Z O) (h2 : RowIs x Z O) (h3 : OkB W Y P) (h4 : RowIs y Y P) : RowIs (qrow_s 19 (W : Int) x y) (if O &&& Y = 0 ∧ Z &&& P = 0 then 0 else 1) 0 := by
  have cl : ∀ j, (pt Z O j ≠ 2 ∧ pt Y P j ≠ 2 ∧ pt Z O j ≠ pt Y P j) ↔ ((O &&& Y).testBit j = true ∨ (Z &&& P).testBit j = true) := fun j => by
    have d := h1.dj j
    have d2 := h3.dj j
    unfold pt
    rw [Nat.testBit_and, Nat.testBit_and]
    cases hz : Z.testBit j <;> cases ho : O.testBit j <;> cases hy : Y.testBit j <;> cases hp : P.testBit j <;> simp [hz, ho, hy, hp] at d d2 ⊢
  have key : ∀ (m i : Nat) (f : Nat → Int) (s : Bool), (∀ j, j < 64 → f j = if j = 0 ∧ s = true then 0 else 2) → (s = true ↔ ∃ j, j < i ∧ ((O &&& Y).testBit j = true ∨ (Z &&& P).testBit j = true)) → i ≤ W → W - i < m → ∀ j, j < 64 → qrow_l1 19 (W : Int) x y m f i j = if j = 0 ∧ (∃ k, k < W ∧ ((O &&& Y).testBit k = true ∨ (Z &&& P).testBit k = true)) then 0 else 2 := by
    intro m
    induction m with
    | zero => intro i f s _ _ _ hm; exact absurd hm (Nat.not_lt_zero _)
    | succ m ih =>
      intro i f s hf hs hi hm j hj
      rw [qrow_l1]
      by_cases c : (i : Int) < (W : Int)
      · rw [decide_eq_true c, Int.toNat_natCast, h2 i (by omega), h4 i (by omega)]
        simp only [cond_true]
        have ci : i + 1 ≤ W := by clear hs hf cl ih; omega
        have cm : W - (i + 1) < m := by clear hs hf cl ih; omega
        have same : ¬ (pt Z O i ≠ 2 ∧ pt Y P i ≠ 2 ∧ pt Z O i ≠ pt Y P i) → qrow_l1 19 (W : Int) x y m f ((i + 1 : Nat) : Int) j = if j = 0 ∧ (∃ k, k < W ∧ ((O &&& Y).testBit k = true ∨ (Z &&& P).testBit k = true)) then 0 else 2 := fun hn => by
          refine ih (i + 1) f s hf ?_ ci cm j hj
          rw [hs]
          constructor
          · rintro ⟨k, h5, h6⟩; exact ⟨k, Nat.lt_succ_of_lt h5, h6⟩
          · rintro ⟨k, h5, h6⟩
            by_cases q : k = i
            · rw [q] at h6; exact absurd ((cl i).2 h6) hn
            · exact ⟨k, Nat.lt_of_le_of_ne (Nat.le_of_lt_succ h5) q, h6⟩
        by_cases q1 : pt Z O i = 2
        · rw [show (pt Z O i != 2) = false from bne_eq_false_iff_eq.2 q1]; exact same (fun h => h.1 q1)
        · rw [show (pt Z O i != 2) = true from bne_iff_ne.2 q1]
          by_cases q2 : pt Y P i = 2
          · rw [show (pt Y P i != 2) = false from bne_eq_false_iff_eq.2 q2]; exact same (fun h => h.2.1 q2)
          · rw [show (pt Y P i != 2) = true from bne_iff_ne.2 q2]
            by_cases q3 : pt Z O i = pt Y P i
            · rw [show (pt Z O i != pt Y P i) = false from bne_eq_false_iff_eq.2 q3]; exact same (fun h => h.2.2 q3)
            · rw [show (pt Z O i != pt Y P i) = true from bne_iff_ne.2 q3]
              refine ih (i + 1) _ true (fun k hk => ?_) ?_ ci cm j hj
              · rw [upd_at]
                by_cases q4 : k = 0
                · rw [if_pos q4, if_pos ⟨q4, rfl⟩]
                · rw [if_neg q4, hf k hk, if_neg (fun h => q4 h.1), if_neg (fun h => q4 h.1)]
              · exact ⟨fun _ => ⟨i, Nat.lt_succ_self i, (cl i).1 ⟨q1, q2, q3⟩⟩, fun _ => rfl⟩
      · rw [decide_eq_false c]
        obtain rfl : i = W := by omega
        show f j = _
        rw [hf j hj]
        by_cases q : j = 0 ∧ s = true
        · rw [if_pos q, if_pos ⟨q.1, hs.1 q.2⟩]
        · rw [if_neg q, if_neg (fun h => q ⟨h.1, hs.2 h.2⟩)]
  intro j hj
  have k := key (((W : Int) - ((0) : Int)).toNat + 1) 0 qnon_s false (fun j hj => by rw [qnon_is j hj]; unfold pt; simp) ⟨fun h => absurd h (by decide), fun hh => (let ⟨j, hj, _⟩ := hh; absurd hj (Nat.not_lt_zero _))⟩ (Nat.zero_le _) (by omega) j hj
  refine Eq.trans k ?_
  have ex : (∃ k, k < W ∧ ((O &&& Y).testBit k = true ∨ (Z &&& P).testBit k = true)) ↔ ¬ (O &&& Y = 0 ∧ Z &&& P = 0) := by
    constructor
    · rintro ⟨k, _, hk⟩ ⟨e1, e2⟩
      rw [e1, e2] at hk
      simp at hk
    · intro hn
      apply Classical.byContradiction
      intro h5
      refine hn ⟨?_, ?_⟩ <;> apply Nat.eq_of_testBit_eq <;> intro k <;> rw [Nat.zero_testBit]
      · cases hb : (O &&& Y).testBit k with
        | false => rfl
        | true => exact absurd ⟨k, bit_lt (Nat.and_lt_two_pow _ h3.lz) hb, .inl hb⟩ h5
      · cases hb : (Z &&& P).testBit k with
        | false => rfl
        | true => exact absurd ⟨k, bit_lt (Nat.and_lt_two_pow _ h3.lo) hb, .inr hb⟩ h5
  by_cases q : O &&& Y = 0 ∧ Z &&& P = 0
  · rw [if_pos q, if_neg (fun h => (ex.1 h.2) q)]; unfold pt; simp
  · rw [if_neg q]
    by_cases q2 : j = 0
    · rw [if_pos ⟨q2, ex.2 q⟩, q2]; rfl
    · rw [if_neg (fun h => q2 h.1)]
      unfold pt
      obtain ⟨k, rfl⟩ : ∃ k, j = k + 1 := ⟨j - 1, by omega⟩
      simp [Nat.testBit_succ]
end
end Go.Proofs.YtjlfgbaphnpbfaaDoor.Sx.M5
