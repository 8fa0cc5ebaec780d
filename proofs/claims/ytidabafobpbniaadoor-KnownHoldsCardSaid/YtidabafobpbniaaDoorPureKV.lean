/- Known bits, the plain law: what known.Apply answers. -/
import Derived.Test.YtidabafobpbniaaDoorPureKU
import Derived.Test.YtidabafobpbniaaDoorPx11
namespace Go.Proofs.YtidabafobpbniaaDoor.Pure
open Go.RowKit Go.Proofs.YtidabafobpbniaaDoor.P Go.Proofs.YtidabafobpbniaaDoorW.PrintWords Go.Proofs.YtidabafobpbniaaDoorW.PrintLast Go.Proofs.YtidabafobpbniaaDoorW.PrintMore
set_option linter.unusedVariables false
set_option linter.unusedSimpArgs false

theorem num_lt (W : Nat) (b : Nat × Nat) : (numK W b).1 < 2 ^ W := by
  unfold numK
  split
  · exact (right_okK W b).2.1
  · exact Nat.pow_pos (by decide)
/-- What known.Apply answers. -/
def kapplyK (op : Int) (W : Nat) (x y : Nat × Nat) : Nat × Nat :=
  if isOpK op then (if (numK W x).2 = true ∧ ((numK W y).2 = true ∨ op = 5) then ofK (ansK op W) (applyN op W (numK W x).1 (numK W y).1) else tableK op W (rightK W x) (rightK W y)) else (0, 0)
theorem kapply_eq (k : Nat) (op w : Int) (x y : Nat × Nat) (h1 : x.1 < 2 ^ 64) (h2 : x.2 < 2 ^ 64) (h3 : y.1 < 2 ^ 64) (h4 : y.2 < 2 ^ 64) : known_Apply.f (k + 4) op w (x.1 : Int) (x.2 : Int) (y.1 : Int) (y.2 : Int) = some (KZ (kapplyK op (cw w) x y)) := by
  have hr := cw_range w
  have hp := pow_le64 hr.2
  have e : mx 1 (mn w 64) = (cw w : Int) := by unfold mx mn cw; omega
  have bad : ∀ m, known_Apply.j0 (m + 4) op w true (x.1 : Int) (x.2 : Int) (y.1 : Int) (y.2 : Int) = some (0, 0) := fun m => by simp [known_Apply.j0]
  have good : isOpK op → known_Apply.j0 (k + 4) op w false (x.1 : Int) (x.2 : Int) (y.1 : Int) (y.2 : Int) = some (KZ (kapplyK op (cw w) x y)) := by
    intro ho
    have lx := num_lt (cw w) x
    have ly := num_lt (cw w) y
    have n1 := num_eqK (cw w : Int) x h1 h2
    have n2 := num_eqK (cw w : Int) y h3 h4
    rw [cw_cw] at n1 n2
    have j1t : known_Apply.j1 (k + 3) op (cw w : Int) ((numK (cw w) x).1 : Int) ((numK (cw w) y).1 : Int) true (x.1 : Int) (x.2 : Int) (y.1 : Int) (y.2 : Int) = some (KZ (ofK (ansK op (cw w)) (applyN op (cw w) (numK (cw w) x).1 (numK (cw w) y).1))) := by
      have hv := apply_lt op hr.1 lx ly
      simp only [known_Apply.j1, if_true]
      rw [apply_eq op _ _ _ (by omega) (by omega), cw_cw, Nat.mod_eq_of_lt lx, Nat.mod_eq_of_lt ly]
      simp only [Option.bind_some]
      unfold ansK
      by_cases c : op ≥ 19
      · rw [if_pos c, if_pos c]
        have := of_eqK 1 (applyN op (cw w) (numK (cw w) x).1 (numK (cw w) y).1) (by omega)
        rw [this]
        rfl
      · rw [if_neg c, if_neg c]
        have := of_eqK (cw w : Int) (applyN op (cw w) (numK (cw w) x).1 (numK (cw w) y).1) (by omega)
        rw [cw_cw] at this
        rw [this]
        rfl
    have j1f : known_Apply.j1 (k + 3) op (cw w : Int) ((numK (cw w) x).1 : Int) ((numK (cw w) y).1 : Int) false (x.1 : Int) (x.2 : Int) (y.1 : Int) (y.2 : Int) = some (KZ (tableK op (cw w) (rightK (cw w) x) (rightK (cw w) y))) := by
      simp only [known_Apply.j1, Bool.false_eq_true, if_false]
      have r1 := kright_eq (cw w : Int) x h1 h2
      have r2 := kright_eq (cw w : Int) y h3 h4
      rw [cw_cw] at r1 r2
      rw [r1, r2]
      simp only [Option.bind_some]
      have t := table_eqK k ho hr.1 hr.2 (right_okK (cw w) x) (right_okK (cw w) y)
      have t' : known_pair_table.f (k + 2) (KZ (rightK (cw w) x)).1 (KZ (rightK (cw w) x)).2 (cw w : Int) (KZ (rightK (cw w) y)).1 (KZ (rightK (cw w) y)).2 (cw w : Int) op = _ := t
      rw [t']
      rfl
    simp only [known_Apply.j0, Bool.false_eq_true, if_false]
    rw [e, n1, n2]
    simp only [Option.bind_some]
    have kt : (numK (cw w) x).2 = true ∧ ((numK (cw w) y).2 = true ∨ op = 5) → kapplyK op (cw w) x y = ofK (ansK op (cw w)) (applyN op (cw w) (numK (cw w) x).1 (numK (cw w) y).1) := fun h => by unfold kapplyK; rw [if_pos ho, if_pos h]
    have kf : ¬ ((numK (cw w) x).2 = true ∧ ((numK (cw w) y).2 = true ∨ op = 5)) → kapplyK op (cw w) x y = tableK op (cw w) (rightK (cw w) x) (rightK (cw w) y) := fun h => by unfold kapplyK; rw [if_pos ho, if_neg h]
    generalize kapplyK op (cw w) x y = Z at *
    cases c : (numK (cw w) x).2
    · rw [kf (by rw [c]; simp)]
      simp only [Bool.false_eq_true, if_false]
      exact j1f
    · simp only [if_true]
      cases d : (numK (cw w) y).2
      · simp only [Bool.false_eq_true, if_false]
        by_cases o : op = 5
        · rw [kt ⟨c, .inr o⟩, show (op == 5) = true from beq_iff_eq.mpr o]; exact j1t
        · rw [kf (fun h => h.2.elim (fun h => absurd (d.symm.trans h) (by decide)) o), show (op == 5) = false from beq_eq_false_iff_ne.mpr o]; exact j1f
      · rw [kt ⟨c, .inl d⟩]
        simp only [if_true]
        exact j1t
  have no : ¬ isOpK op → some ((0 : Int), (0 : Int)) = some (KZ (kapplyK op (cw w) x y)) := fun h => by unfold kapplyK; rw [if_neg h]; rfl
  unfold known_Apply.f
  by_cases o1 : op < 5
  · rw [if_pos o1, bad]; exact no (by unfold isOpK; omega)
  · rw [if_neg o1]
    by_cases o2 : op > 21
    · rw [if_pos o2, bad]; exact no (by unfold isOpK; omega)
    · rw [if_neg o2]
      by_cases o3 : op = 6
      · rw [if_pos o3, bad]; exact no (by unfold isOpK; omega)
      · rw [if_neg o3]
        by_cases o4 : op = 7
        · rw [show (op == 7) = true from beq_iff_eq.mpr o4, bad]; exact no (by unfold isOpK; omega)
        · rw [show (op == 7) = false from beq_eq_false_iff_ne.mpr o4]
          exact good (by unfold isOpK; omega)
end Go.Proofs.YtidabafobpbniaaDoor.Pure
