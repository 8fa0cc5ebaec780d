/- TermChecks: both check alike; so do they count kids. -/
import Derived.Test.YtkindfbbklkjdaaPureA
import Derived.Test.YtkindfbbklkjdaaPx25
namespace Go.Proofs.Ytkindfbbklkjdaa.Pure
open Go.RowKit Go.Proofs.Ytkindfbbklkjdaa.P Go.Proofs.YtkindfbbklkjdaaW.PrintWords Go.Proofs.YtkindfbbklkjdaaW.PrintLast Go.Proofs.YtkindfbbklkjdaaW.PrintMore
set_option linter.unusedVariables false

theorem wf_u64 {x : Int} (h : (Lit.int .u64 x).wf = true) : 0 ≤ x ∧ x ≤ 18446744073709551615 := by
  simp only [Lit.wf, Bool.and_eq_true, decide_eq_true_eq] at h
  have h1 : (IntKind.u64).min = 0 := by decide
  have h2 : (IntKind.u64).max = 18446744073709551615 := by decide
  rw [h1, h2] at h
  exact h

theorem TermChecks_row (l0 : List S32) (a1 : Int) (h0_ : l0.length ≤ maxLen) (h1_ : l0.length * 48 ≤ 140737488351232) (h2_ : (∀ x ∈ l0, (Lit.int .i64 x.f0).wf = true ∧ (Lit.int .i64 x.f1).wf = true ∧ (Lit.int .u64 x.f2).wf = true ∧ (Lit.int .i64 x.f3.f0).wf = true ∧ (Lit.int .i64 x.f3.f1).wf = true ∧ (Lit.int .i64 x.f3.f2).wf = true)) (h3_ : (Lit.int .i64 a1).wf = true) : ∃ k, backreachlaw06_TermChecks.f k l0 a1 = some true := by
  refine Ult.ex ?_
  have hf : Fine l0 := fun a ha => wf_u64 (h2_ a ha).2.2.1
  unfold backreachlaw06_TermChecks.f
  simp only [backreachlaw06_awake.f, Option.bind_some, if_true]
  by_cases hl : (l0.length : Int) > 300
  · simp only [if_pos hl]; exact Ult.now _
  · simp only [if_neg hl]
    simp only [List.length_nil, List.nil_append]
    have hs : 0 + l0.length < 2932031007402 := by omega
    simp only [if_pos hs]
    refine Ult.bind (check_term l0 hf (by omega)) (Ult.bind (check_ref l0 (by omega)) ?_)
    simp only [if_true]
    refine Ult.bind (kids_term a1) (Ult.bind (kids_ref a1) ?_)
    rw [beq_self_eq_true]
    exact Ult.now _

end Go.Proofs.Ytkindfbbklkjdaa.Pure
