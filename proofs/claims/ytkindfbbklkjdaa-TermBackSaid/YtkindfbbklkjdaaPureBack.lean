/- TermBack, the plain statement: it answers true. -/
import Derived.Test.YtkindfbbklkjdaaGo
namespace Go.Proofs.Ytkindfbbklkjdaa.Pure
open Go.RowKit Go.Proofs.Ytkindfbbklkjdaa.P Go.Proofs.YtkindfbbklkjdaaW.PrintWords Go.Proofs.YtkindfbbklkjdaaW.PrintLast Go.Proofs.YtkindfbbklkjdaaW.PrintMore
set_option linter.unusedVariables false
theorem fitB_of {l : List S32} (h : ∀ x ∈ l, (Lit.int .i64 x.f0).wf = true ∧ (Lit.int .i64 x.f1).wf = true ∧ (Lit.int .u64 x.f2).wf = true ∧ (Lit.int .i64 x.f3.f0).wf = true ∧ (Lit.int .i64 x.f3.f1).wf = true ∧ (Lit.int .i64 x.f3.f2).wf = true) : fitB l = true := by
  unfold fitB
  rw [List.all_eq_true]
  intro x hx
  obtain ⟨a, b, c, d, e, f⟩ := h x hx
  unfold okN wf64 wfu
  rw [a, b, c, d, e, f]
  rfl
theorem TermBack_row (l0 : List S32) (h0_ : l0.length ≤ maxLen) (h1_ : l0.length * 48 ≤ 140737488351232) (h2_ : (∀ x ∈ l0, (Lit.int .i64 x.f0).wf = true ∧ (Lit.int .i64 x.f1).wf = true ∧ (Lit.int .u64 x.f2).wf = true ∧ (Lit.int .i64 x.f3.f0).wf = true ∧ (Lit.int .i64 x.f3.f1).wf = true ∧ (Lit.int .i64 x.f3.f2).wf = true)) : ∃ k, backreachlaw06_TermBack.f k l0 = some true :=
  ⟨0, by
    unfold backreachlaw06_TermBack.f
    rw [fitB_of h2_]
    rfl⟩
end Go.Proofs.Ytkindfbbklkjdaa.Pure
