/- Spans, the plain law: SpanGrows. -/
import Derived.Test.YtidabafobpbniaaPureS
import Derived.Test.YtidabafobpbniaaGz
namespace Go.Proofs.Ytidabafobpbniaa.Pure
open Go.RowKit Go.Proofs.Ytidabafobpbniaa.P Go.Proofs.YtidabafobpbniaaW.PrintWords Go.Proofs.YtidabafobpbniaaW.PrintLast Go.Proofs.YtidabafobpbniaaW.PrintMore
set_option linter.unusedVariables false
set_option linter.unusedSimpArgs false

theorem join_ok (W : Nat) (x y : Nat × Nat) : Ok W (joinN W x y) := by
  have hx := right_ok W x
  have hy := right_ok W y
  unfold Ok at *
  unfold joinN
  simp only
  omega
theorem join_wider (W : Nat) (x y : Nat × Nat) : Wider (joinN W x y) (rightN W x) := by
  unfold Wider joinN
  simp only
  omega
/-- Of wider spans, what span.Apply answers is no narrower. -/
theorem sapply_grows (op : Int) {W : Nat} (h1 : 1 ≤ W) {x y x' y' : Nat × Nat} (hx : Ok W x) (hy : Ok W y) (hx' : Ok W x') (hy' : Ok W y') (gx : Wider x' x) (gy : Wider y' y) : Wider (sapplyN op W x' y') (sapplyN op W x y) := by
  by_cases o : isOp op
  · by_cases c' : x'.1 = x'.2 ∧ (op = 5 ∨ y'.1 = y'.2)
    · have ex : x.1 = x.2 ∧ x'.1 = x.1 := by unfold Wider at gx; unfold Ok at hx; omega
      have ey : op = 5 ∨ (y.1 = y.2 ∧ y'.1 = y.1) := by
        rcases c'.2 with d | d
        · exact .inl d
        · unfold Wider at gy; unfold Ok at hy; exact .inr (by omega)
      unfold sapplyN
      rw [if_pos o, if_pos o, if_pos c', if_pos ⟨ex.1, ey.imp id (·.1)⟩]
      have e : applyN op W x'.1 y'.1 = applyN op W x.1 y.1 := by
        rcases ey with rfl | d
        · rw [ex.2]; simp [applyN]
        · rw [ex.2, d.2]
      unfold Wider
      simp only
      omega
    · by_cases c : x.1 = x.2 ∧ (op = 5 ∨ y.1 = y.2)
      · have q := table_sound o h1 hx' hy' (a := x.1) (b := y.1) (by unfold Wider at gx; unfold Ok at hx; omega) (by unfold Wider at gy; unfold Ok at hy; omega)
        unfold sapplyN
        rw [if_pos o, if_pos o, if_neg c', if_pos c]
        unfold Sound at q
        unfold Wider
        simp only
        omega
      · unfold sapplyN
        rw [if_pos o, if_pos o, if_neg c', if_neg c]
        exact table_grows o h1 hx hy hx' hy' gx gy
  · unfold sapplyN
    rw [if_neg o, if_neg o]
    exact ⟨Nat.le_refl _, Nat.le_refl _⟩
theorem SpanGrows_row (a0 : Int) (a1 : Int) (a2_0 a2_1 : Int) (a3_0 a3_1 : Int) (a4_0 a4_1 : Int) (a5_0 a5_1 : Int) (h0_ : (Lit.int .i64 a0).wf = true) (h1_ : (Lit.int .i64 a1).wf = true) (h2_ : (Lit.int .u64 a2_0).wf = true) (h3_ : (Lit.int .u64 a2_1).wf = true) (h4_ : (Lit.int .u64 a3_0).wf = true) (h5_ : (Lit.int .u64 a3_1).wf = true) (h6_ : (Lit.int .u64 a4_0).wf = true) (h7_ : (Lit.int .u64 a4_1).wf = true) (h8_ : (Lit.int .u64 a5_0).wf = true) (h9_ : (Lit.int .u64 a5_1).wf = true) : ∃ k, backreachlaw11_SpanGrows.f k a0 a1 a2_0 a2_1 a3_0 a3_1 a4_0 a4_1 a5_0 a5_1 = some true := by
  obtain ⟨x0, rfl, l0⟩ := nat_of_wf h2_
  obtain ⟨x1, rfl, l1⟩ := nat_of_wf h3_
  obtain ⟨y0, rfl, l2⟩ := nat_of_wf h4_
  obtain ⟨y1, rfl, l3⟩ := nat_of_wf h5_
  obtain ⟨z0, rfl, l4⟩ := nat_of_wf h6_
  obtain ⟨z1, rfl, l5⟩ := nat_of_wf h7_
  obtain ⟨v0, rfl, l6⟩ := nat_of_wf h8_
  obtain ⟨v1, rfl, l7⟩ := nat_of_wf h9_
  have hr := cw_range a1
  refine ⟨5, ?_⟩
  unfold backreachlaw11_SpanGrows.f
  rw [awake_eq 0]
  simp only [Option.bind_some, if_true]
  have j1 := join_eq a1 (x0, x1) (z0, z1)
  have j2 := join_eq a1 (y0, y1) (v0, v1)
  have e1 := sapply_eq 0 a0 a1 (x0, x1) (y0, y1)
  have e2 := sapply_eq 0 a0 a1 (joinN (cw a1) (x0, x1) (z0, z1)) (joinN (cw a1) (y0, y1) (v0, v1))
  rw [right_of (join_ok _ _ _), right_of (join_ok _ _ _)] at e2
  have g := sapply_grows a0 hr.1 (right_ok _ _) (right_ok _ _) (join_ok _ _ _) (join_ok _ _ _) (join_wider (cw a1) (x0, x1) (z0, z1)) (join_wider (cw a1) (y0, y1) (v0, v1))
  simp only at j1 j2 e1
  have e1' : span_Apply.f 5 a0 a1 (x0 : Int) (x1 : Int) (y0 : Int) (y1 : Int) = _ := e1
  have e2' : span_Apply.f 5 a0 a1 (ZZ (joinN (cw a1) (x0, x1) (z0, z1))).1 (ZZ (joinN (cw a1) (x0, x1) (z0, z1))).2 (ZZ (joinN (cw a1) (y0, y1) (v0, v1))).1 (ZZ (joinN (cw a1) (y0, y1) (v0, v1))).2 = _ := e2
  rw [j1, j2]
  simp only [Option.bind_some]
  rw [e1', e2']
  simp only [Option.bind_some]
  unfold Wider at g
  generalize sapplyN a0 (cw a1) (rightN (cw a1) (x0, x1)) (rightN (cw a1) (y0, y1)) = S at *
  generalize sapplyN a0 (cw a1) (joinN (cw a1) (x0, x1) (z0, z1)) (joinN (cw a1) (y0, y1) (v0, v1)) = U at *
  rw [if_pos (show (ZZ U).1 ≤ (ZZ S).1 by simp only [ZZ]; omega), decide_eq_true (show (ZZ S).2 ≤ (ZZ U).2 by simp only [ZZ]; omega)]
end Go.Proofs.Ytidabafobpbniaa.Pure
