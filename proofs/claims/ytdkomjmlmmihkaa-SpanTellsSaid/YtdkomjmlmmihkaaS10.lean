/- SpanTells: every answer is the document's. -/
import Derived.Test.YtdkomjmlmmihkaaS9
open Go Go.Proofs Go.RowKit
namespace Go.Proofs.Ytdkomjmlmmihkaa.Sx.M5
set_option linter.unusedVariables false
set_option linter.unusedSimpArgs false
theorem rsri_eq (w a b : Int) : rsri_s w a b = srig_s w a b := by
  unfold rsri_s srig_s whol_s
  rw [rmsk_int]
theorem rsha_eq (w a b x : Int) : rsha_s w a b x = shas_s w a b x := by
  unfold rsha_s shas_s cut_s
  rw [rsri_eq, rmsk_int]
theorem rsme_eq (w a b c e : Int) : rsme_s w a b c e = smee_s w a b c e := by
  unfold rsme_s smee_s
  rw [rsri_eq, rsri_eq, rgre_eq, rsma_eq]
theorem rsjo_eq (w a b c e : Int) : rsjo_s w a b c e = sjoi_s w a b c e := by
  unfold rsjo_s sjoi_s
  rw [rsri_eq, rsri_eq, rgre_eq, rsma_eq]
theorem srig_le {w a b : Int} : (srig_s w a b).2 ≤ mask_s w := by
  unfold srig_s whol_s
  by_cases h1 : a > b
  · rw [decide_eq_true h1]; exact Int.le_refl _
  · rw [decide_eq_false h1]
    by_cases h2 : b > mask_s w
    · rw [decide_eq_true h2]; exact Int.le_refl _
    · rw [decide_eq_false h2]; show b ≤ _; omega
theorem pt_eq (x y : Int) : ((x == (pnt_s x).1) && (y == (pnt_s x).2)) = (x == y) := by
  unfold pnt_s
  rw [beq_self_eq_true, Bool.true_and]
  by_cases h : x = y
  · rw [h]
  · rw [beq_eq_false_iff_ne.2 h, beq_eq_false_iff_ne.2 (Ne.symm h)]
section
variable {w m a b c e : Int} {W : Nat}
theorem u5 (F : Fit w m a b c e W) : stab_s 5 w a b c e = pick (rsum_s 5 m a b c e) m := by
  unfold stab_s pick rsum_s
  rw [F.mask]
  simp only [Int.reduceBEq, cond_true, Bool.not_true, cond_false]
theorem u8 (F : Fit w m a b c e W) : stab_s 8 w a b c e = pick (rsum_s 8 m a b c e) m := by
  unfold stab_s
  simp only [Int.reduceBEq, cond_true, cond_false]
  exact t8 F
theorem u9 (F : Fit w m a b c e W) : stab_s 9 w a b c e = pick (rsum_s 9 m a b c e) m := by
  unfold stab_s
  simp only [Int.reduceBEq, cond_true, cond_false]
  exact t9 F
theorem u10 (F : Fit w m a b c e W) : stab_s 10 w a b c e = pick (rsum_s 10 m a b c e) m := by
  unfold stab_s
  simp only [Int.reduceBEq, cond_true, cond_false]
  exact t10 F
theorem u11 (F : Fit w m a b c e W) : stab_s 11 w a b c e = pick (rpar_s 11 a b c e) m := by
  unfold stab_s
  simp only [Int.reduceBEq, cond_true, cond_false]
  exact t11 F
theorem u12 (F : Fit w m a b c e W) : stab_s 12 w a b c e = pick (rpar_s 12 a b c e) m := by
  unfold stab_s
  simp only [Int.reduceBEq, cond_true, cond_false]
  exact t12 F
theorem u13 (F : Fit w m a b c e W) : stab_s 13 w a b c e = pick (rpar_s 13 a b c e) m := by
  unfold stab_s
  simp only [Int.reduceBEq, cond_true, cond_false]
  exact t13 (m := m)
theorem u14 (F : Fit w m a b c e W) : stab_s 14 w a b c e = pick (rpar_s 14 a b c e) m := by
  unfold stab_s
  simp only [Int.reduceBEq, cond_true, cond_false]
  exact t14 F
theorem u15 (F : Fit w m a b c e W) : stab_s 15 w a b c e = pick (rpar_s 15 a b c e) m := by
  unfold stab_s
  simp only [Int.reduceBEq, cond_true, cond_false]
  exact t15 F
theorem u16 (F : Fit w m a b c e W) : stab_s 16 w a b c e = pick (rshi_s 16 w m a b c e) m := by
  unfold stab_s
  simp only [Int.reduceBEq, cond_true, cond_false]
  exact t16 F
theorem u17 (F : Fit w m a b c e W) : stab_s 17 w a b c e = pick (rshi_s 17 w m a b c e) m := by
  unfold stab_s
  simp only [Int.reduceBEq, cond_true, cond_false]
  exact t17 F
theorem u18 (F : Fit w m a b c e W) : stab_s 18 w a b c e = pick (rshi_s 18 w m a b c e) m := by
  unfold stab_s
  simp only [Int.reduceBEq, cond_true, cond_false]
  exact t18 F
theorem u19 (F : Fit w m a b c e W) : stab_s 19 w a b c e = trOf (rtrs_s 19 m a b c e) := by
  unfold stab_s
  simp only [Int.reduceBEq, cond_true, cond_false]
  exact t19 (m := m)
theorem u20 (F : Fit w m a b c e W) : stab_s 20 w a b c e = trOf (rtrs_s 20 m a b c e) := by
  unfold stab_s
  simp only [Int.reduceBEq, cond_true, cond_false]
  exact t20 (m := m)
theorem u21 (F : Fit w m a b c e W) : stab_s 21 w a b c e = trOf (rtrs_s 21 m a b c e) := by
  unfold stab_s
  simp only [Int.reduceBEq, cond_true, cond_false]
  exact t21 F
end
set_option maxRecDepth 100000 in
theorem sapp_same (op w a b c e : Int) (ha : 0 ≤ a ∧ a < 18446744073709551616) (hb : 0 ≤ b ∧ b < 18446744073709551616) (hc : 0 ≤ c ∧ c < 18446744073709551616) (he : 0 ≤ e ∧ e < 18446744073709551616) : sapp_s op w a b c e = rsap_s op w a b c e := by
  obtain ⟨h1, h2⟩ := cw_range w
  have hv : max 1 (min w 64) = (cw w : Int) := by unfold cw; omega
  unfold sapp_s rsap_s
  rw [rwid_eq, rsri_eq, rsri_eq, rmsk_int, hv]
  simp only [pt_eq]
  have g1 := srig_rng (w := (cw w : Int)) ha hb
  have g2 := srig_rng (w := (cw w : Int)) hc he
  have l1 := srig_le (w := (cw w : Int)) (a := a) (b := b)
  have l2 := srig_le (w := (cw w : Int)) (a := c) (b := e)
  have hm := mask_int (cw w : Int)
  rw [cw_cw] at hm
  generalize mask_s (cw w : Int) = M at *
  generalize srig_s (cw w : Int) a b = X at *
  generalize srig_s (cw w : Int) c e = Y at *
  obtain ⟨x1, x2⟩ := X
  obtain ⟨y1, y2⟩ := Y
  simp only at *
  have F : Fit (cw w : Int) M x1 x2 y1 y2 (cw w) := ⟨rfl, h1, h2, hm, g1.1.1, g1.2.2, l1, g2.1.1, g2.2.2, l2⟩
  have hws := word_same op (cw w : Int) g1.1 g2.1
  by_cases o1 : op < 5
  · rw [decide_eq_true o1]; rfl
  rw [decide_eq_false o1]
  by_cases o2 : op > 21
  · rw [decide_eq_true o2]; rfl
  rw [decide_eq_false o2, hws]
  clear hws
  rcases (show op = 5 ∨ op = 6 ∨ op = 7 ∨ op = 8 ∨ op = 9 ∨ op = 10 ∨ op = 11 ∨ op = 12 ∨ op = 13 ∨ op = 14 ∨ op = 15 ∨ op = 16 ∨ op = 17 ∨ op = 18 ∨ op = 19 ∨ op = 20 ∨ op = 21 by omega) with rfl | rfl | rfl | rfl | rfl | rfl | rfl | rfl | rfl | rfl | rfl | rfl | rfl | rfl | rfl | rfl | rfl
  · simp only [Int.reduceBEq, cond_true, cond_false, ge_iff_le, Int.reduceLE, decide_true, decide_false]
    rw [u5 F]
    cases (x1 == x2) <;> rfl
  · rfl
  · rfl
  · simp only [Int.reduceBEq, cond_true, cond_false, ge_iff_le, Int.reduceLE, decide_true, decide_false]
    rw [u8 F]
    cases (x1 == x2) <;> cases (y1 == y2) <;> rfl
  · simp only [Int.reduceBEq, cond_true, cond_false, ge_iff_le, Int.reduceLE, decide_true, decide_false]
    rw [u9 F]
    cases (x1 == x2) <;> cases (y1 == y2) <;> rfl
  · simp only [Int.reduceBEq, cond_true, cond_false, ge_iff_le, Int.reduceLE, decide_true, decide_false]
    rw [u10 F]
    cases (x1 == x2) <;> cases (y1 == y2) <;> rfl
  · simp only [Int.reduceBEq, cond_true, cond_false, ge_iff_le, Int.reduceLE, decide_true, decide_false]
    rw [u11 F]
    cases (x1 == x2) <;> cases (y1 == y2) <;> rfl
  · simp only [Int.reduceBEq, cond_true, cond_false, ge_iff_le, Int.reduceLE, decide_true, decide_false]
    rw [u12 F]
    cases (x1 == x2) <;> cases (y1 == y2) <;> rfl
  · simp only [Int.reduceBEq, cond_true, cond_false, ge_iff_le, Int.reduceLE, decide_true, decide_false]
    rw [u13 F]
    cases (x1 == x2) <;> cases (y1 == y2) <;> rfl
  · simp only [Int.reduceBEq, cond_true, cond_false, ge_iff_le, Int.reduceLE, decide_true, decide_false]
    rw [u14 F]
    cases (x1 == x2) <;> cases (y1 == y2) <;> rfl
  · simp only [Int.reduceBEq, cond_true, cond_false, ge_iff_le, Int.reduceLE, decide_true, decide_false]
    rw [u15 F]
    cases (x1 == x2) <;> cases (y1 == y2) <;> rfl
  · simp only [Int.reduceBEq, cond_true, cond_false, ge_iff_le, Int.reduceLE, decide_true, decide_false]
    rw [u16 F]
    cases (x1 == x2) <;> cases (y1 == y2) <;> rfl
  · simp only [Int.reduceBEq, cond_true, cond_false, ge_iff_le, Int.reduceLE, decide_true, decide_false]
    rw [u17 F]
    cases (x1 == x2) <;> cases (y1 == y2) <;> rfl
  · simp only [Int.reduceBEq, cond_true, cond_false, ge_iff_le, Int.reduceLE, decide_true, decide_false]
    rw [u18 F]
    cases (x1 == x2) <;> cases (y1 == y2) <;> rfl
  · simp only [Int.reduceBEq, cond_true, cond_false, ge_iff_le, Int.reduceLE, decide_true, decide_false]
    rw [u19 F]
    cases (x1 == x2) <;> cases (y1 == y2) <;> rfl
  · simp only [Int.reduceBEq, cond_true, cond_false, ge_iff_le, Int.reduceLE, decide_true, decide_false]
    rw [u20 F]
    cases (x1 == x2) <;> cases (y1 == y2) <;> rfl
  · simp only [Int.reduceBEq, cond_true, cond_false, ge_iff_le, Int.reduceLE, decide_true, decide_false]
    rw [u21 F]
    cases (x1 == x2) <;> cases (y1 == y2) <;> rfl
theorem lTel_true (op w a b c e n : Int) (ha : 0 ≤ a ∧ a < 18446744073709551616) (hb : 0 ≤ b ∧ b < 18446744073709551616) (hc : 0 ≤ c ∧ c < 18446744073709551616) (he : 0 ≤ e ∧ e < 18446744073709551616) : lTel_s op w a b c e n = true := by
  unfold lTel_s
  rw [sapp_same op w a b c e ha hb hc he, rsri_eq, rsha_eq, rsme_eq, rsjo_eq]
  simp only [beq_self_eq_true, Bool.and_self, Bool.not_true, cond_false, cond_true]
end Go.Proofs.Ytdkomjmlmmihkaa.Sx.M5
