/- Spans, the plain law: SpanWhole. -/
import Derived.Test.YtidabafobpbniaaPureS
import Derived.Test.YtidabafobpbniaaPx15
namespace Go.Proofs.Ytidabafobpbniaa.Pure
open Go.RowKit Go.Proofs.Ytidabafobpbniaa.P Go.Proofs.YtidabafobpbniaaW.PrintWords Go.Proofs.YtidabafobpbniaaW.PrintLast Go.Proofs.YtidabafobpbniaaW.PrintMore
set_option linter.unusedVariables false
set_option linter.unusedSimpArgs false

theorem all_ok (W : Nat) : Ok W (0, 2 ^ W - 1) := ⟨Nat.zero_le _, Nat.le_refl _⟩
theorem right_right (W : Nat) (x : Nat × Nat) : rightN W (rightN W x) = rightN W x := right_of (right_ok W x)
theorem SpanWhole_row (a0 : Int) (a1 : Int) (a2_0 a2_1 : Int) (a3_0 a3_1 : Int) (a4 : Int) (h0_ : (Lit.int .i64 a0).wf = true) (h1_ : (Lit.int .i64 a1).wf = true) (h2_ : (Lit.int .u64 a2_0).wf = true) (h3_ : (Lit.int .u64 a2_1).wf = true) (h4_ : (Lit.int .u64 a3_0).wf = true) (h5_ : (Lit.int .u64 a3_1).wf = true) (h6_ : (Lit.int .u64 a4).wf = true) : ∃ k, backreachlaw11_SpanWhole.f k a0 a1 a2_0 a2_1 a3_0 a3_1 a4 = some true := by
  obtain ⟨x0, rfl, l0⟩ := nat_of_wf h2_
  obtain ⟨x1, rfl, l1⟩ := nat_of_wf h3_
  obtain ⟨y0, rfl, l2⟩ := nat_of_wf h4_
  obtain ⟨y1, rfl, l3⟩ := nat_of_wf h5_
  obtain ⟨a, rfl, l4⟩ := nat_of_wf h6_
  have hr := cw_range a1
  have hp := pow_le64 hr.2
  have pp : 0 < 2 ^ cw a1 := Nat.pow_pos (by decide)
  have ma : a % 2 ^ cw a1 < 2 ^ cw a1 := Nat.mod_lt _ pp
  refine ⟨9, ?_⟩
  unfold backreachlaw11_SpanWhole.f
  rw [awake_eq 4]
  simp only [Option.bind_some, if_true]
  rw [mask_eq]
  simp only [Option.bind_some]
  have h := has_eq a1 (0, 2 ^ cw a1 - 1) a l4
  have hv : hasN (cw a1) (0, 2 ^ cw a1 - 1) a = true := by
    unfold hasN
    rw [right_of (all_ok _)]
    simp only [Bool.and_eq_true, decide_eq_true_eq]
    omega
  rw [hv] at h
  have h' : span_Has.f a1 0 ((2 ^ cw a1 - 1 : Nat) : Int) (a : Int) = some true := h
  rw [h']
  simp only [Option.bind_some, if_true]
  have r1 := sright_eq a1 (x0, x1)
  have r2 := sright_eq a1 (rightN (cw a1) (x0, x1))
  rw [right_right] at r2
  simp only at r1
  have r2' : span_Right.f a1 (ZZ (rightN (cw a1) (x0, x1))).1 (ZZ (rightN (cw a1) (x0, x1))).2 = some (ZZ (rightN (cw a1) (x0, x1))) := r2
  rw [r1]
  simp only [Option.bind_some]
  rw [r2']
  simp only [Option.bind_some, beq_self_eq_true, Bool.not_true, Bool.or_false]
  have j1t : Ok (cw a1) (x0, x1) → backreachlaw11_SpanWhole.j1 8 a0 a1 true (x0 : Int) (x1 : Int) (y0 : Int) (y1 : Int) 0 ((2 ^ cw a1 - 1 : Nat) : Int) = some true := by
    intro o
    simp only [backreachlaw11_SpanWhole.j1, if_true]
    rw [r1, right_of o]
    simp [ZZ]
  have j1f : ¬ Ok (cw a1) (x0, x1) → backreachlaw11_SpanWhole.j1 8 a0 a1 false (x0 : Int) (x1 : Int) (y0 : Int) (y1 : Int) 0 ((2 ^ cw a1 - 1 : Nat) : Int) = some true := by
    intro o
    have rx : rightN (cw a1) (x0, x1) = (0, 2 ^ cw a1 - 1) := by
      unfold Ok at o
      unfold rightN
      simp only at o ⊢
      by_cases c : x1 < x0
      · rw [if_pos c]
      · rw [if_neg c, if_pos (by omega)]
    simp only [backreachlaw11_SpanWhole.j1, Bool.false_eq_true, if_false]
    have e1 := sapply_eq 2 a0 a1 (x0, x1) (y0, y1)
    have e2 := sapply_eq 2 a0 a1 (0, 2 ^ cw a1 - 1) (y0, y1)
    have e3 := sapply_eq 2 a0 a1 (y0, y1) (x0, x1)
    have e4 := sapply_eq 2 a0 a1 (y0, y1) (0, 2 ^ cw a1 - 1)
    rw [rx] at e1 e3
    rw [right_of (all_ok _)] at e2 e4
    have jn := join_eq a1 (x0, x1) (y0, y1)
    have je : joinN (cw a1) (x0, x1) (y0, y1) = (0, 2 ^ cw a1 - 1) := by
      have hy := right_ok (cw a1) (y0, y1)
      unfold Ok at hy
      unfold joinN
      rw [rx]
      simp only [Prod.mk.injEq]
      omega
    rw [je] at jn
    simp only at e1 e2 e3 e4 jn
    have e2' : span_Apply.f 7 a0 a1 0 ((2 ^ cw a1 - 1 : Nat) : Int) (y0 : Int) (y1 : Int) = _ := e2
    have e4' : span_Apply.f 7 a0 a1 (y0 : Int) (y1 : Int) 0 ((2 ^ cw a1 - 1 : Nat) : Int) = _ := e4
    have e1' : span_Apply.f 7 a0 a1 (x0 : Int) (x1 : Int) (y0 : Int) (y1 : Int) = _ := e1
    have e3' : span_Apply.f 7 a0 a1 (y0 : Int) (y1 : Int) (x0 : Int) (x1 : Int) = _ := e3
    rw [r1, rx]
    simp only [Option.bind_some]
    rw [if_pos (show ((ZZ (0, 2 ^ cw a1 - 1)).1 == 0 && ((ZZ (0, 2 ^ cw a1 - 1)).2 == ((2 ^ cw a1 - 1 : Nat) : Int))) = true by simp [ZZ]), e1', e2']
    simp only [Option.bind_some, beq_self_eq_true, Bool.and_self, if_true]
    rw [e3', e4']
    simp only [Option.bind_some, beq_self_eq_true, Bool.and_self, if_true]
    rw [jn]
    simp [ZZ]
  simp only [Bool.or_self, Bool.not_true, backreachlaw11_SpanWhole.j0, Bool.false_eq_true, if_false]
  by_cases c : x0 ≤ x1
  · rw [if_pos (show (x0 : Int) ≤ (x1 : Int) by omega), mask_eq]
    simp only [Option.bind_some]
    by_cases d : x1 ≤ 2 ^ cw a1 - 1
    · rw [decide_eq_true (show (x1 : Int) ≤ ((2 ^ cw a1 - 1 : Nat) : Int) by omega)]
      exact j1t ⟨c, d⟩
    · rw [decide_eq_false (show ¬ (x1 : Int) ≤ ((2 ^ cw a1 - 1 : Nat) : Int) by omega)]
      exact j1f (fun o => d o.2)
  · rw [if_neg (show ¬ (x0 : Int) ≤ (x1 : Int) by omega)]
    exact j1f (fun o => c o.1)
end Go.Proofs.Ytidabafobpbniaa.Pure
