/- KnownTells: Right, Of, Num, Has, Meet, Join. -/
import Derived.Test.YtjlfgbaphnpbfaaDoorK10
import Derived.Test.YtjlfgbaphnpbfaaDoorK36
open Go Go.Proofs Go.RowKit
namespace Go.Proofs.YtjlfgbaphnpbfaaDoor.Sx.M5
set_option linter.unusedVariables false
set_option linter.unusedSimpArgs false
theorem and0_iff (a b : Nat) : a &&& b = 0 ↔ ∀ i, a.testBit i = true → b.testBit i = false := by
  constructor
  · intro h i ha
    have := congrArg (fun n => Nat.testBit n i) h
    simp only [Nat.testBit_and, ha, Bool.true_and, Nat.zero_testBit] at this
    exact this
  · intro h
    apply Nat.eq_of_testBit_eq
    intro i
    rw [Nat.testBit_and, Nat.zero_testBit]
    cases ha : a.testBit i
    · rfl
    · rw [h i ha]; rfl
theorem bit_lt {a W i : Nat} (h : a < 2 ^ W) (ha : a.testBit i = true) : i < W := by
  rcases Nat.lt_or_ge i W with c | c
  · exact c
  · have := Nat.testBit_lt_two_pow (Nat.lt_of_lt_of_le h (Nat.pow_le_pow_right (by decide) c))
    rw [this] at ha; cases ha
theorem andNot0_iff (a x : Nat) (ha : a < 2 ^ 64) (hx : x < 2 ^ 64) : a &&& (2 ^ 64 - 1 - x) = 0 ↔ ∀ i, a.testBit i = true → x.testBit i = true := by
  rw [and0_iff]
  have e : 2 ^ 64 - 1 - x = 2 ^ 64 - (x + 1) := by omega
  constructor
  · intro h i hi
    have := h i hi
    rw [e, Nat.testBit_two_pow_sub_succ hx, decide_eq_true (bit_lt ha hi), Bool.true_and] at this
    simpa using this
  · intro h i hi
    rw [e, Nat.testBit_two_pow_sub_succ hx, h i hi]
    simp
theorem mask_xor {W x : Nat} (h : x < 2 ^ W) : x ^^^ (2 ^ W - 1) = 2 ^ W - 1 - x := by
  rw [Nat.xor_comm]; exact not_nat x W h
theorem andNot_nat (a b : Nat) (ha : a < 2 ^ 64) (hb : b < 2 ^ 64) : Go.bits .andNot .u64 (a : Int) (b : Int) = ((a &&& (2 ^ 64 - 1 - b) : Nat) : Int) := by
  have ha' : a % 2 ^ 64 = a := Nat.mod_eq_of_lt ha
  have hb' : b % 2 ^ 64 = b := Nat.mod_eq_of_lt hb
  have hx : a &&& (2 ^ 64 - 1 - b) < 2 ^ 64 := Nat.and_lt_two_pow _ (by omega)
  have e : IntKind.u64.bits = 64 := rfl
  simp only [Go.bits, e, BitVec.ofInt_natCast, BitVec.toNat_and, BitVec.toNat_not, BitVec.toNat_ofNat, ha', hb']
  exact u64_small (Int.natCast_nonneg _) (by omega)

theorem dj_iff (z o : Nat) : Dj z o ↔ z &&& o = 0 := (and0_iff z o).symm
theorem OkB.zero (W : Nat) : OkB W 0 0 := ⟨Nat.two_pow_pos W, Nat.two_pow_pos W, fun j h => by simp at h⟩
theorem OkB.z64 {W z o : Nat} (h : OkB W z o) (hW : W ≤ 64) : z < 2 ^ 64 := Nat.lt_of_lt_of_le h.lz (pow_le64 hW)
theorem OkB.o64 {W z o : Nat} (h : OkB W z o) (hW : W ≤ 64) : o < 2 ^ 64 := Nat.lt_of_lt_of_le h.lo (pow_le64 hW)
/-- What is known of bits, by both sides. -/
theorem right_both (w : Int) {z e : Int} (hz : 0 ≤ z ∧ z < 18446744073709551616) (he : 0 ≤ e ∧ e < 18446744073709551616) : ∃ Z O : Nat, krig_s w z e = ((Z : Int), (O : Int)) ∧ OkB (cw w) Z O ∧ RowIs (qof_s (cw w : Int) z e) Z O := by
  obtain ⟨z0, rfl⟩ : ∃ n : Nat, z = n := ⟨z.toNat, by omega⟩
  obtain ⟨e0, rfl⟩ : ∃ n : Nat, e = n := ⟨e.toNat, by omega⟩
  obtain ⟨h1, h2⟩ := cw_range w
  have hz0 : z0 < 2 ^ 64 := by omega
  have he0 : e0 < 2 ^ 64 := by omega
  have q := qof_is (w := (cw w : Int)) rfl h2 hz0 he0 rfl rfl
  have hp := pow_le64 h2
  have lZ : z0 % 2 ^ cw w < 2 ^ cw w := Nat.mod_lt _ (Nat.two_pow_pos _)
  have lO : e0 % 2 ^ cw w < 2 ^ cw w := Nat.mod_lt _ (Nat.two_pow_pos _)
  unfold krig_s
  rw [cut_eq w z0 hz0, cut_eq w e0 he0, and_nat _ _ (by omega) (by omega)]
  generalize z0 % 2 ^ cw w = Z at *
  generalize e0 % 2 ^ cw w = O at *
  by_cases hd : Z &&& O = 0
  · refine ⟨Z, O, ?_, ⟨lZ, lO, (dj_iff _ _).2 hd⟩, q.1 ((dj_iff _ _).2 hd)⟩
    rw [hd]; rfl
  · refine ⟨0, 0, ?_, OkB.zero _, q.2 (fun h => hd ((dj_iff _ _).1 h))⟩
    rw [show ((((Z &&& O : Nat) : Int)) != 0) = true from bne_iff_ne.2 (by omega)]
    rfl
theorem qrig_same (w : Int) {z e : Int} (hz : 0 ≤ z ∧ z < 18446744073709551616) (he : 0 ≤ e ∧ e < 18446744073709551616) : qrig_s w z e = krig_s w z e := by
  obtain ⟨Z, O, h1, h2, h3⟩ := right_both w hz he
  unfold qrig_s
  rw [rwid_eq, qbit_is h3 h2.dj (h2.z64 (cw_range w).2) (h2.o64 (cw_range w).2), h1]
theorem kof_eq (w : Int) {x : Nat} (hx : x < 2 ^ 64) : kof_s w (x : Int) = (((2 ^ cw w - 1 - x % 2 ^ cw w : Nat) : Int), ((x % 2 ^ cw w : Nat) : Int)) := by
  have hp := pow_le64 (cw_range w).2
  have l : x % 2 ^ cw w < 2 ^ cw w := Nat.mod_lt _ (Nat.two_pow_pos _)
  unfold kof_s
  rw [cut_eq w x hx, mask_eq, xor_nat _ _ (by omega) (by omega), mask_xor l]
theorem of_ok (W : Nat) {X : Nat} (h : X < 2 ^ W) : OkB W (2 ^ W - 1 - X) X := by
  refine ⟨by omega, h, fun j hj => ?_⟩
  rw [← notN_eq h, notN_bit] at hj
  simp at hj
  exact hj.2
theorem qwo_same (w : Int) {x : Int} (hx : 0 ≤ x ∧ x < 18446744073709551616) : qwo_s w x = kof_s w x := by
  obtain ⟨x0, rfl⟩ : ∃ n : Nat, x = n := ⟨x.toNat, by omega⟩
  have h2 := (cw_range w).2
  have hx0 : x0 < 2 ^ 64 := by omega
  have o := of_ok (cw w) (X := x0 % 2 ^ cw w) (Nat.mod_lt _ (Nat.two_pow_pos _))
  unfold qwo_s
  rw [rwid_eq, qbit_is (qwrd_is rfl h2 hx0 rfl) o.dj (o.z64 h2) (o.o64 h2), kof_eq w hx0]
theorem known_iff' {W Z O : Nat} (h : OkB W Z O) : (∀ j, j < W → pt Z O j ≠ 2) ↔ Z = 2 ^ W - 1 - O := by
  rw [← notN_eq h.lo]
  constructor
  · intro hk
    apply Nat.eq_of_testBit_eq
    intro j
    rw [notN_bit]
    by_cases c : j < W
    · have := hk j c
      unfold pt at this
      rw [decide_eq_true c]
      cases hO : O.testBit j with
      | true =>
        cases hZ : Z.testBit j with
        | true => rw [h.dj j hZ] at hO; cases hO
        | false => rfl
      | false =>
        cases hZ : Z.testBit j with
        | true => rfl
        | false => rw [hO, hZ] at this; simp at this
    · rw [decide_eq_false c, bit_hi h.lz (by omega)]; rfl
  · intro e j hj
    have : Z.testBit j = !O.testBit j := by rw [e, notN_bit, decide_eq_true hj]; rfl
    unfold pt
    rw [this]
    cases O.testBit j <;> simp
theorem knum_both (w : Int) {z e : Int} {Z O : Nat} (h1 : krig_s w z e = ((Z : Int), (O : Int))) (h2 : OkB (cw w) Z O) : knum_s w z e = if Z = 2 ^ cw w - 1 - O then ((O : Int), true) else (0, false) := by
  have hO := h2.o64 (cw_range w).2
  unfold knum_s
  rw [h1]
  simp only
  rw [kof_eq w hO, Nat.mod_eq_of_lt h2.lo]
  simp only [beq_self_eq_true, Bool.and_true]
  by_cases c : Z = 2 ^ cw w - 1 - O
  · rw [if_pos c, show (((Z : Int)) == (((2 ^ cw w - 1 - O : Nat) : Int))) = true by rw [c]; exact beq_self_eq_true _]; rfl
  · rw [if_neg c, show (((Z : Int)) == (((2 ^ cw w - 1 - O : Nat) : Int))) = false from beq_eq_false_iff_ne.2 (by omega)]; rfl
theorem qnum_row {w : Int} {r : Nat → Int} {Z O : Nat} (h2 : OkB (cw w) Z O) (h3 : RowIs r Z O) : qnum_s (cw w : Int) r = if Z = 2 ^ cw w - 1 - O then ((O : Int), true) else (0, false) := by
  have hW := (cw_range w).2
  rw [qnum_is rfl hW h3, Nat.mod_eq_of_lt h2.lo]
  have e : (∀ j, j < cw w → r j ≠ 2) ↔ Z = 2 ^ cw w - 1 - O := by
    rw [← known_iff' h2]
    exact ⟨fun h j hj => by rw [← h3 j (by omega)]; exact h j hj, fun h j hj => by rw [h3 j (by omega)]; exact h j hj⟩
  by_cases c : Z = 2 ^ cw w - 1 - O
  · rw [if_pos (e.2 c), if_pos c]
  · rw [if_neg (fun h => c (e.1 h)), if_neg c]
theorem qnu_same (w : Int) {z e : Int} (hz : 0 ≤ z ∧ z < 18446744073709551616) (he : 0 ≤ e ∧ e < 18446744073709551616) : qnu_s w z e = knum_s w z e := by
  obtain ⟨Z, O, h1, h2, h3⟩ := right_both w hz he
  unfold qnu_s
  rw [rwid_eq, qnum_row h2 h3, knum_both w h1 h2]
theorem qhas_same (w : Int) {z e x : Int} (hz : 0 ≤ z ∧ z < 18446744073709551616) (he : 0 ≤ e ∧ e < 18446744073709551616) (hx : 0 ≤ x ∧ x < 18446744073709551616) : qhas_s w z e x = khas_s w z e x := by
  obtain ⟨Z, O, h1, h2, h3⟩ := right_both w hz he
  obtain ⟨x0, rfl⟩ : ∃ n : Nat, x = n := ⟨x.toNat, by omega⟩
  have hx0 : x0 < 2 ^ 64 := by omega
  have hW := (cw_range w).2
  have hX := rof_is (w := (cw w : Int)) (x0 := (x0 : Int)) rfl hW hx0 rfl
  have key : ∀ (m i : Nat), i ≤ cw w → cw w - i < m → (qhas_l0 w z e (x0 : Int) m i = true ↔ ∀ j, i ≤ j → j < cw w → (O.testBit j = true → x0.testBit j = true) ∧ (Z.testBit j = true → x0.testBit j = false)) := by
    intro m
    induction m with
    | zero => intro i _ hm; exact absurd hm (Nat.not_lt_zero _)
    | succ m ih =>
      intro i hi hm
      rw [qhas_l0, rwid_eq]
      by_cases c : (i : Int) < (cw w : Int)
      · rw [decide_eq_true c, Int.toNat_natCast, hX i (by omega), of_bit, decide_eq_true (show i < cw w by omega), Bool.true_and, h3 i (by omega)]
        simp only [cond_true]
        have nx := ih (i + 1) (by omega) (by omega)
        have split : (∀ j, i ≤ j → j < cw w → (O.testBit j = true → x0.testBit j = true) ∧ (Z.testBit j = true → x0.testBit j = false)) ↔ ((O.testBit i = true → x0.testBit i = true) ∧ (Z.testBit i = true → x0.testBit i = false)) ∧ ∀ j, i + 1 ≤ j → j < cw w → (O.testBit j = true → x0.testBit j = true) ∧ (Z.testBit j = true → x0.testBit j = false) := by
          constructor
          · intro h; exact ⟨h i (Nat.le_refl _) (by omega), fun j h1 h2 => h j (by omega) h2⟩
          · rintro ⟨h1, h2⟩ j h3 h4
            by_cases q : j = i
            · rw [q]; exact h1
            · exact h2 j (by omega) h4
        rw [split, ← nx]
        unfold pt
        have hdj := h2.dj i
        cases hO : O.testBit i <;> cases hZ : Z.testBit i <;> cases hb : x0.testBit i <;> simp [hO, hZ] at hdj ⊢
      · rw [decide_eq_false c]
        exact ⟨fun _ j h1 h2 => by omega, fun _ => rfl⟩
  have hk := key ((rwid_s w - ((0) : Int)).toNat + 1) 0 (Nat.zero_le _) (by rw [rwid_eq]; omega)
  have hO := h2.o64 hW
  have hZ := h2.z64 hW
  have hh : khas_s w z e (x0 : Int) = decide (O &&& (2 ^ 64 - 1 - x0) = 0 ∧ Z &&& x0 = 0) := by
    unfold khas_s
    rw [h1]
    simp only
    rw [andNot_nat _ _ hO hx0, and_nat _ _ hZ hx0]
    by_cases c : O &&& (2 ^ 64 - 1 - x0) = 0
    · rw [show ((((O &&& (2 ^ 64 - 1 - x0) : Nat) : Int)) == 0) = true by rw [c]; rfl]
      by_cases c2 : Z &&& x0 = 0
      · rw [decide_eq_true ⟨c, c2⟩, c2]; rfl
      · rw [decide_eq_false (fun h => c2 h.2)]
        exact beq_eq_false_iff_ne.2 (by omega)
    · rw [show ((((O &&& (2 ^ 64 - 1 - x0) : Nat) : Int)) == 0) = false from beq_eq_false_iff_ne.2 (by omega), decide_eq_false (fun h => c h.1)]
      rfl
  rw [hh]
  apply Bool.eq_iff_iff.2
  rw [decide_eq_true_eq, andNot0_iff _ _ hO hx0, and0_iff]
  unfold qhas_s
  refine hk.trans ?_
  constructor
  · intro h
    refine ⟨fun j hj => (h j (Nat.zero_le _) (bit_lt h2.lo hj)).1 hj, fun j hj => (h j (Nat.zero_le _) (bit_lt h2.lz hj)).2 hj⟩
  · rintro ⟨h1, h2⟩ j _ _
    exact ⟨h1 j, h2 j⟩
end Go.Proofs.YtjlfgbaphnpbfaaDoor.Sx.M5
