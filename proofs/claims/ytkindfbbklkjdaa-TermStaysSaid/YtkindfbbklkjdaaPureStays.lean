/- TermStays: the numbers of the arguments' nodes are of their kinds. -/
import Derived.Test.YtkindfbbklkjdaaGl
namespace Go.Proofs.Ytkindfbbklkjdaa.Pure
open Go.RowKit Go.Proofs.Ytkindfbbklkjdaa.P Go.Proofs.YtkindfbbklkjdaaW.PrintWords Go.Proofs.YtkindfbbklkjdaaW.PrintLast Go.Proofs.YtkindfbbklkjdaaW.PrintMore
set_option linter.unusedVariables false
theorem fitS_of {l : List S32} (h : ∀ x ∈ l, (Lit.int .i64 x.f0).wf = true ∧ (Lit.int .i64 x.f1).wf = true ∧ (Lit.int .u64 x.f2).wf = true ∧ (Lit.int .i64 x.f3.f0).wf = true ∧ (Lit.int .i64 x.f3.f1).wf = true ∧ (Lit.int .i64 x.f3.f2).wf = true) : fitS l = true := by
  unfold fitS
  rw [List.all_eq_true]
  intro x hx
  obtain ⟨a, b, c, d, e, f⟩ := h x hx
  unfold okN wf64 wfu
  rw [a, b, c, d, e, f]
  rfl
theorem TermStays_row (l0 : List S32) (l1 : List S32) (a2_0 a2_1 a2_2 a2_3 a2_4 a2_5 : Int) (h0_ : l0.length ≤ maxLen) (h1_ : l0.length * 48 ≤ 140737488351232) (h2_ : (∀ x ∈ l0, (Lit.int .i64 x.f0).wf = true ∧ (Lit.int .i64 x.f1).wf = true ∧ (Lit.int .u64 x.f2).wf = true ∧ (Lit.int .i64 x.f3.f0).wf = true ∧ (Lit.int .i64 x.f3.f1).wf = true ∧ (Lit.int .i64 x.f3.f2).wf = true)) (h3_ : l1.length ≤ maxLen) (h4_ : l1.length * 48 ≤ 140737488351232) (h5_ : (∀ x ∈ l1, (Lit.int .i64 x.f0).wf = true ∧ (Lit.int .i64 x.f1).wf = true ∧ (Lit.int .u64 x.f2).wf = true ∧ (Lit.int .i64 x.f3.f0).wf = true ∧ (Lit.int .i64 x.f3.f1).wf = true ∧ (Lit.int .i64 x.f3.f2).wf = true)) (h6_ : (Lit.int .i64 a2_0).wf = true) (h7_ : (Lit.int .i64 a2_1).wf = true) (h8_ : (Lit.int .u64 a2_2).wf = true) (h9_ : (Lit.int .i64 a2_3).wf = true) (h10_ : (Lit.int .i64 a2_4).wf = true) (h11_ : (Lit.int .i64 a2_5).wf = true) : ∃ k, backreachlaw06_TermStays.f k l0 l1 a2_0 a2_1 a2_2 a2_3 a2_4 a2_5 = some true :=
  ⟨0, by
    unfold backreachlaw06_TermStays.f
    rw [fitS_of h2_, fitS_of h5_, show okN ⟨a2_0, a2_1, a2_2, ⟨a2_3, a2_4, a2_5⟩⟩ = true by unfold okN wf64 wfu; rw [h6_, h7_, h8_, h9_, h10_, h11_]; rfl]
    rfl⟩
end Go.Proofs.Ytkindfbbklkjdaa.Pure
