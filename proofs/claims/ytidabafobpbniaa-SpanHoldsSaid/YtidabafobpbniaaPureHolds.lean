/- Spans, the plain law: SpanHolds. -/
import Derived.Test.YtidabafobpbniaaPureS
import Derived.Test.YtidabafobpbniaaPx13
namespace Go.Proofs.Ytidabafobpbniaa.Pure
open Go.RowKit Go.Proofs.Ytidabafobpbniaa.P Go.Proofs.YtidabafobpbniaaW.PrintWords Go.Proofs.YtidabafobpbniaaW.PrintLast Go.Proofs.YtidabafobpbniaaW.PrintMore
set_option linter.unusedVariables false
set_option linter.unusedSimpArgs false

theorem SpanHolds_row (a0 : Int) (a1 : Int) (a2_0 a2_1 : Int) (a3_0 a3_1 : Int) (a4 : Int) (a5 : Int) (h0_ : (Lit.int .i64 a0).wf = true) (h1_ : (Lit.int .i64 a1).wf = true) (h2_ : (Lit.int .u64 a2_0).wf = true) (h3_ : (Lit.int .u64 a2_1).wf = true) (h4_ : (Lit.int .u64 a3_0).wf = true) (h5_ : (Lit.int .u64 a3_1).wf = true) (h6_ : (Lit.int .u64 a4).wf = true) (h7_ : (Lit.int .u64 a5).wf = true) : ∃ k, backreachlaw11_SpanHolds.f k a0 a1 a2_0 a2_1 a3_0 a3_1 a4 a5 = some true := by
  obtain ⟨x0, rfl, l0⟩ := nat_of_wf h2_
  obtain ⟨x1, rfl, l1⟩ := nat_of_wf h3_
  obtain ⟨y0, rfl, l2⟩ := nat_of_wf h4_
  obtain ⟨y1, rfl, l3⟩ := nat_of_wf h5_
  obtain ⟨a, rfl, l4⟩ := nat_of_wf h6_
  obtain ⟨b, rfl, l5⟩ := nat_of_wf h7_
  have hr := cw_range a1
  have hp := pow_le64 hr.2
  have pp : 0 < 2 ^ cw a1 := Nat.pow_pos (by decide)
  refine ⟨6, ?_⟩
  unfold backreachlaw11_SpanHolds.f
  rw [awake_eq 1]
  simp only [Option.bind_some, if_true]
  rw [has_eq a1 (x0, x1) a l4, has_eq a1 (y0, y1) b l5]
  simp only [Option.bind_some]
  have q0 : backreachlaw11_SpanHolds.j0 6 a0 a1 (a : Int) (b : Int) true (x0 : Int) (x1 : Int) (y0 : Int) (y1 : Int) = some true := by
    simp only [backreachlaw11_SpanHolds.j0, if_true]
  cases c : hasN (cw a1) (x0, x1) a
  · simp only [Bool.false_eq_true, if_false]; exact q0
  · simp only [if_true]
    cases d : hasN (cw a1) (y0, y1) b
    · exact q0
    · simp only [Bool.not_true, backreachlaw11_SpanHolds.j0, Bool.false_eq_true, if_false]
      have hx := right_ok (cw a1) (x0, x1)
      have hy := right_ok (cw a1) (y0, y1)
      have ma : a % 2 ^ cw a1 < 2 ^ cw a1 := Nat.mod_lt _ pp
      have mb : b % 2 ^ cw a1 < 2 ^ cw a1 := Nat.mod_lt _ pp
      have s := sapply_sound a0 hr.1 hx hy (has_ok c) (has_ok d)
      have o := sapply_ok a0 hr.1 hx hy
      have va := apply_lt a0 hr.1 ma mb
      have e := sapply_eq 0 a0 a1 (x0, x1) (y0, y1)
      simp only at e
      rw [show (0 + 5 : Nat) = 5 from rfl] at e
      rw [e, apply_eq a0 a1 a b l4 l5, cut_eq a1 a l4, cut_eq a1 b l5]
      simp only [Option.bind_some]
      generalize sapplyN a0 (cw a1) (rightN (cw a1) (x0, x1)) (rightN (cw a1) (y0, y1)) = S at *
      have e2 := sapply_eq 0 a0 a1 (a % 2 ^ cw a1, a % 2 ^ cw a1) (b % 2 ^ cw a1, b % 2 ^ cw a1)
      rw [right_of (show Ok (cw a1) (a % 2 ^ cw a1, a % 2 ^ cw a1) from ⟨Nat.le_refl _, by simp only; omega⟩), right_of (show Ok (cw a1) (b % 2 ^ cw a1, b % 2 ^ cw a1) from ⟨Nat.le_refl _, by simp only; omega⟩), sapply_point] at e2
      simp only at e2
      rw [show (0 + 5 : Nat) = 5 from rfl] at e2
      rw [e2]
      generalize applyN a0 (cw a1) (a % 2 ^ cw a1) (b % 2 ^ cw a1) = V at *
      unfold Sound at s
      unfold Ok at o
      have h := has_eq a1 S V (by omega)
      have hv : hasN (cw a1) S V = true := by
        unfold hasN
        rw [right_of o, Nat.mod_eq_of_lt va]
        simp only [Bool.and_eq_true, decide_eq_true_eq]
        omega
      rw [hv] at h
      have h' : span_Has.f a1 (ZZ S).1 (ZZ S).2 (V : Int) = some true := h
      rw [h']
      simp only [Option.bind_some, if_true]
      rw [if_pos (show (ZZ S).1 ≤ (ZZ S).2 by simp only [ZZ]; omega), mask_eq]
      simp only [Option.bind_some]
      rw [if_pos (show (ZZ S).2 ≤ ((2 ^ cw a1 - 1 : Nat) : Int) by simp only [ZZ]; omega)]
      simp [ZZ]
end Go.Proofs.Ytidabafobpbniaa.Pure
