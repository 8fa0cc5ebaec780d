/- KnownTells: Meet, Join. -/
import Derived.Test.YtjlfgbaphnpbfaaDoorK11
open Go Go.Proofs Go.RowKit
namespace Go.Proofs.YtjlfgbaphnpbfaaDoor.Sx.M5
set_option linter.unusedVariables false
set_option linter.unusedSimpArgs false
theorem or_zero_iff (a b : Nat) : a ||| b = 0 ↔ a = 0 ∧ b = 0 := by
  constructor
  · intro h
    have : ∀ j, (a ||| b).testBit j = false := fun j => by rw [h]; simp
    constructor <;> apply Nat.eq_of_testBit_eq <;> intro j <;> have := this j <;> rw [Nat.testBit_or] at this <;> simp at this ⊢ <;> simp [this]
  · rintro ⟨rfl, rfl⟩; rfl
theorem qjoi_same (w : Int) {a b c e : Int} (ha : 0 ≤ a ∧ a < 18446744073709551616) (hb : 0 ≤ b ∧ b < 18446744073709551616) (hc : 0 ≤ c ∧ c < 18446744073709551616) (he : 0 ≤ e ∧ e < 18446744073709551616) : qjoi_s w a b c e = kjoi_s w a b c e := by
  obtain ⟨Z, O, g1, g2, g3⟩ := right_both w ha hb
  obtain ⟨Y, P, g4, g5, g6⟩ := right_both w hc he
  have hW := (cw_range w).2
  have hpt : ∀ j, pt (Z &&& Y) (O &&& P) j = if pt Z O j = pt Y P j then pt Z O j else 2 := fun j => by
    have d1 := g2.dj j
    have d2 := g5.dj j
    unfold pt
    rw [Nat.testBit_and, Nat.testBit_and]
    cases hZ : Z.testBit j <;> cases hO : O.testBit j <;> cases hY : Y.testBit j <;> cases hP : P.testBit j <;> simp [hZ, hO, hY, hP] at d1 d2 ⊢
  have hi : ∀ j, cw w ≤ j → pt Z O j = 2 ∧ pt Y P j = 2 := fun j hj => by
    unfold pt
    rw [bit_hi g2.lz hj, bit_hi g2.lo hj, bit_hi g5.lz hj, bit_hi g5.lo hj]
    exact ⟨rfl, rfl⟩
  have ok : OkB (cw w) (Z &&& Y) (O &&& P) := ⟨Nat.and_lt_two_pow _ g5.lz, Nat.and_lt_two_pow _ g5.lo, fun j hj => by
    rw [Nat.testBit_and] at hj ⊢
    simp only [Bool.and_eq_true] at hj
    rw [g2.dj j hj.1]; rfl⟩
  have key : ∀ (m i : Nat) (f : Nat → Int), (∀ j, j < i → f j = pt (Z &&& Y) (O &&& P) j) → (∀ j, i ≤ j → j < 64 → f j = pt Z O j) → i ≤ cw w → cw w - i < m → qjoi_l0 w a b c e m f i = (((Z &&& Y : Nat) : Int), ((O &&& P : Nat) : Int)) := by
    intro m
    induction m with
    | zero => intro i f _ _ _ hm; exact absurd hm (Nat.not_lt_zero _)
    | succ m ih =>
      intro i f hf hg hi2 hm
      rw [qjoi_l0, rwid_eq]
      by_cases q : (i : Int) < (cw w : Int)
      · rw [decide_eq_true q, Int.toNat_natCast, g6 i (by omega), hg i (Nat.le_refl _) (by omega)]
        simp only [cond_true]
        have hp := hpt i
        by_cases q2 : pt Z O i = pt Y P i
        · rw [show (pt Z O i != pt Y P i) = false from bne_eq_false_iff_eq.2 q2]
          rw [if_pos q2] at hp
          refine ih (i + 1) _ (fun j hj => ?_) (fun j hj => hg j (by omega)) (by omega) (by omega)
          by_cases q3 : j = i
          · rw [q3, hp, hg i (Nat.le_refl _) (by omega)]
          · exact hf j (by omega)
        · rw [show (pt Z O i != pt Y P i) = true from bne_iff_ne.2 q2]
          rw [if_neg q2] at hp
          refine ih (i + 1) _ (fun j hj => ?_) (fun j hj hj2 => ?_) (by omega) (by omega)
          · rw [upd_at]; split
            · rename_i q3; rw [q3, hp]
            · exact hf j (by omega)
          · rw [upd_at, if_neg (by omega)]; exact hg j (by omega) hj2
      · rw [decide_eq_false q]
        have hr : RowIs f (Z &&& Y) (O &&& P) := fun j hj => by
          by_cases q3 : j < i
          · exact hf j q3
          · have h4 := hi j (by omega)
            rw [hpt j, if_pos (h4.1.trans h4.2.symm)]
            exact hg j (by omega) hj
        show ((qbit_s f).1, (qbit_s f).2) = _
        rw [qbit_is hr ok.dj (ok.z64 hW) (ok.o64 hW)]
  unfold qjoi_s
  have k := key ((rwid_s w - ((0) : Int)).toNat + 1) 0 (qof_s (rwid_s w) a b) (fun j hj => absurd hj (Nat.not_lt_zero _)) (fun j _ hj => by rw [rwid_eq]; exact g3 j hj) (Nat.zero_le _) (by rw [rwid_eq]; omega)
  refine k.trans ?_
  unfold kjoi_s
  rw [g1, g4]
  simp only
  rw [and_nat _ _ (g2.z64 hW) (g5.z64 hW), and_nat _ _ (g2.o64 hW) (g5.o64 hW)]
theorem qmee_same (w : Int) {a b c e : Int} (ha : 0 ≤ a ∧ a < 18446744073709551616) (hb : 0 ≤ b ∧ b < 18446744073709551616) (hc : 0 ≤ c ∧ c < 18446744073709551616) (he : 0 ≤ e ∧ e < 18446744073709551616) : qmee_s w a b c e = kmee_s w a b c e := by
  obtain ⟨Z, O, g1, g2, g3⟩ := right_both w ha hb
  obtain ⟨Y, P, g4, g5, g6⟩ := right_both w hc he
  have hW := (cw_range w).2
  have lz : Z ||| Y < 2 ^ cw w := Nat.or_lt_two_pow g2.lz g5.lz
  have lo : O ||| P < 2 ^ cw w := Nat.or_lt_two_pow g2.lo g5.lo
  have hpp := pow_le64 hW
  have hpt : ∀ j, ((Z ||| Y).testBit j = true → (O ||| P).testBit j = false) → pt (Z ||| Y) (O ||| P) j = if pt Z O j = 2 then pt Y P j else pt Z O j := fun j hd => by
    have d1 := g2.dj j
    have d2 := g5.dj j
    unfold pt
    rw [Nat.testBit_or, Nat.testBit_or] at hd ⊢
    cases hZ : Z.testBit j <;> cases hO : O.testBit j <;> cases hY : Y.testBit j <;> cases hP : P.testBit j <;> simp [hZ, hO, hY, hP] at d1 d2 hd ⊢
  have clash : ∀ j, ¬ ((Z ||| Y).testBit j = true → (O ||| P).testBit j = false) ↔ (pt Z O j ≠ 2 ∧ pt Y P j ≠ 2 ∧ pt Z O j ≠ pt Y P j) := fun j => by
    have d1 := g2.dj j
    have d2 := g5.dj j
    unfold pt
    rw [Nat.testBit_or, Nat.testBit_or]
    cases hZ : Z.testBit j <;> cases hO : O.testBit j <;> cases hY : Y.testBit j <;> cases hP : P.testBit j <;> simp [hZ, hO, hY, hP] at d1 d2 ⊢
  have hi : ∀ j, cw w ≤ j → pt Z O j = 2 ∧ pt Y P j = 2 := fun j hj => by
    unfold pt
    rw [bit_hi g2.lz hj, bit_hi g2.lo hj, bit_hi g5.lz hj, bit_hi g5.lo hj]
    exact ⟨rfl, rfl⟩
  have key : ∀ (m i : Nat) (f : Nat → Int), (∀ j, j < i → ((Z ||| Y).testBit j = true → (O ||| P).testBit j = false)) → (∀ j, j < i → f j = pt (Z ||| Y) (O ||| P) j) → (∀ j, i ≤ j → j < 64 → f j = pt Z O j) → i ≤ cw w → cw w - i < m → qmee_l0 w a b c e m f i = if (Z ||| Y) &&& (O ||| P) = 0 then (((Z ||| Y : Nat) : Int), ((O ||| P : Nat) : Int), true) else (0, 0, false) := by
    intro m
    induction m with
    | zero => intro i f _ _ _ _ hm; exact absurd hm (Nat.not_lt_zero _)
    | succ m ih =>
      intro i f hd hf hg hi2 hm
      rw [qmee_l0, rwid_eq]
      by_cases q : (i : Int) < (cw w : Int)
      · rw [decide_eq_true q, Int.toNat_natCast, g6 i (by omega), hg i (Nat.le_refl _) (by omega)]
        simp only [cond_true]
        by_cases cl : pt Z O i ≠ 2 ∧ pt Y P i ≠ 2 ∧ pt Z O i ≠ pt Y P i
        · rw [show (pt Z O i != 2) = true from bne_iff_ne.2 cl.1, show (pt Y P i != 2) = true from bne_iff_ne.2 cl.2.1, show (pt Z O i != pt Y P i) = true from bne_iff_ne.2 cl.2.2]
          rw [if_neg (fun h => (clash i).2 cl (fun h1 => (dj_iff _ _).2 h i h1))]
          rfl
        · have ncl : (Z ||| Y).testBit i = true → (O ||| P).testBit i = false := by
            apply Classical.byContradiction
            intro h; exact cl ((clash i).1 h)
          have hp := hpt i ncl
          have go2 : pt Z O i = 2 → qmee_l0 w a b c e m (upd f i (pt Y P i)) ((i + 1 : Nat) : Int) = if (Z ||| Y) &&& (O ||| P) = 0 then (((Z ||| Y : Nat) : Int), ((O ||| P : Nat) : Int), true) else (0, 0, false) := fun h2 => by
            rw [if_pos h2] at hp
            refine ih (i + 1) _ (fun j hj => ?_) (fun j hj => ?_) (fun j hj hj2 => ?_) (by omega) (by omega)
            · by_cases q3 : j = i
              · rw [q3]; exact ncl
              · exact hd j (by omega)
            · rw [upd_at]; split
              · rename_i q3; rw [q3, hp]
              · exact hf j (by omega)
            · rw [upd_at, if_neg (by omega)]; exact hg j (by omega) hj2
          have gon : pt Z O i ≠ 2 → qmee_l0 w a b c e m f ((i + 1 : Nat) : Int) = if (Z ||| Y) &&& (O ||| P) = 0 then (((Z ||| Y : Nat) : Int), ((O ||| P : Nat) : Int), true) else (0, 0, false) := fun h2 => by
            rw [if_neg h2] at hp
            refine ih (i + 1) _ (fun j hj => ?_) (fun j hj => ?_) (fun j hj hj2 => hg j (by omega) hj2) (by omega) (by omega)
            · by_cases q3 : j = i
              · rw [q3]; exact ncl
              · exact hd j (by omega)
            · by_cases q3 : j = i
              · rw [q3, hp, hg i (Nat.le_refl _) (by omega)]
              · exact hf j (by omega)
          by_cases h2 : pt Z O i = 2
          · rw [show (pt Z O i != 2) = false from bne_eq_false_iff_eq.2 h2, show (pt Z O i == 2) = true from beq_iff_eq.2 h2]
            exact go2 h2
          · rw [show (pt Z O i != 2) = true from bne_iff_ne.2 h2, show (pt Z O i == 2) = false from beq_eq_false_iff_ne.2 h2]
            by_cases h3 : pt Y P i = 2
            · rw [show (pt Y P i != 2) = false from bne_eq_false_iff_eq.2 h3]
              exact gon h2
            · have h4 : pt Z O i = pt Y P i := by
                apply Classical.byContradiction
                intro h5; exact cl ⟨h2, h3, h5⟩
              rw [show (pt Y P i != 2) = true from bne_iff_ne.2 h3, show (pt Z O i != pt Y P i) = false from bne_eq_false_iff_eq.2 h4]
              exact gon h2
      · rw [decide_eq_false q]
        have hdj : Dj (Z ||| Y) (O ||| P) := fun j hj => by
          by_cases q3 : j < i
          · exact hd j q3 hj
          · rw [bit_hi lz (by omega)] at hj; cases hj
        have hr : RowIs f (Z ||| Y) (O ||| P) := fun j hj => by
          by_cases q3 : j < i
          · exact hf j q3
          · have h4 := hi j (by omega)
            rw [hpt j (hdj j), if_pos h4.1, h4.2, ← h4.1]
            exact hg j (by omega) hj
        rw [if_pos ((dj_iff _ _).1 hdj)]
        show ((qbit_s f).1, (qbit_s f).2, true) = _
        rw [qbit_is hr hdj (by omega) (by omega)]
  unfold qmee_s
  have k := key ((rwid_s w - ((0) : Int)).toNat + 1) 0 (qof_s (rwid_s w) a b) (fun j hj => absurd hj (Nat.not_lt_zero _)) (fun j hj => absurd hj (Nat.not_lt_zero _)) (fun j _ hj => by rw [rwid_eq]; exact g3 j hj) (Nat.zero_le _) (by rw [rwid_eq]; omega)
  refine k.trans ?_
  unfold kmee_s
  rw [g1, g4]
  simp only
  rw [or_nat _ _ (g2.z64 hW) (g5.z64 hW), or_nat _ _ (g2.o64 hW) (g5.o64 hW), and_nat _ _ (by omega) (by omega)]
  by_cases q : (Z ||| Y) &&& (O ||| P) = 0
  · rw [if_pos q, q]; rfl
  · rw [if_neg q, show ((((Z ||| Y) &&& (O ||| P) : Nat) : Int) != 0) = true from bne_iff_ne.2 (by omega)]; rfl
end Go.Proofs.YtjlfgbaphnpbfaaDoor.Sx.M5
