/- Known bits, the plain law: the example that keeps the laws awake. -/
import Derived.Test.YtidabafobpbniaaDoorPureK
import Derived.Test.YtidabafobpbniaaDoorPx12
namespace Go.Proofs.YtidabafobpbniaaDoor.Pure
open Go.RowKit Go.Proofs.YtidabafobpbniaaDoor.P Go.Proofs.YtidabafobpbniaaDoorW.PrintWords Go.Proofs.YtidabafobpbniaaDoorW.PrintLast Go.Proofs.YtidabafobpbniaaDoorW.PrintMore
set_option linter.unusedVariables false
set_option linter.unusedSimpArgs false

theorem nat_of_wf {x : Int} (h : (Lit.int .u64 x).wf = true) : ∃ n : Nat, x = (n : Int) ∧ n < 2 ^ 64 := by
  have q : 0 ≤ x ∧ x < 18446744073709551616 := by
    simp only [Lit.wf, Bool.and_eq_true, decide_eq_true_eq] at h
    have h1 : IntKind.u64.min = 0 := rfl
    have h2 : IntKind.u64.max = 18446744073709551615 := rfl
    omega
  exact ⟨x.toNat, by omega, by omega⟩
theorem awake_12 : backreachlaw12_awake.f 12 = some true := by decide +kernel
theorem awake_eqK (k : Nat) : backreachlaw12_awake.f (k + 12) = some true := at_rounds backreachlaw12_awake.mono (by omega) awake_12
end Go.Proofs.YtidabafobpbniaaDoor.Pure
