/- math/bits.Len64, for the walks. -/
import Derived.Test.YtidabafobpbniaaGm
import Derived.Test.YtidabafobpbniaaV0
namespace Go.Proofs.Ytidabafobpbniaa.P
open Go.RowKit Go.Proofs.YtidabafobpbniaaW.PrintWords Go.Proofs.YtidabafobpbniaaW.PrintLast Go.Proofs.YtidabafobpbniaaW.PrintMore
set_option linter.unusedVariables false
set_option linter.unusedSimpArgs false
/-! ### bits_Len64: function 73 -/
def bits_Len64.f (x : Int) : Option Int := if 0 ≤ x ∧ x ≤ 18446744073709551615 then some (Lib.bitLen x.toNat) else none
theorem bits_Len64.calls (a0 : Int) (r : Int) (w : World) (h : bits_Len64.f a0 = some r) :
    Calls Try.prog 73 #[.int .u64 a0] w fun e w' => e = .returned (.int .i64 r) ∧ Drawn0 w w' := by
  unfold bits_Len64.f at h
  by_cases c : 0 ≤ a0 ∧ a0 ≤ 18446744073709551615
  · rw [if_pos c] at h
    obtain rfl := Option.some.inj h
    refine (bits_Len64_calls a0 w c.1 c.2).mono ?_
    rintro e w' ⟨rfl, rfl⟩
    exact ⟨rfl, Drawn0.refl _⟩
  · rw [if_neg c] at h; cases h
end Go.Proofs.Ytidabafobpbniaa.P
