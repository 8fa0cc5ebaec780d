/- The law KnownTells as a contract over what is handed over. -/
import Derived.Test.YtjlfgbaphnpbfaaDoorK16
import Derived.Test.YtjlfgbaphnpbfaaDoorSx19
import Derived.OpenShut
import Derived.WalkKit
import Derived.ProofKit
open Go Go.Proofs Go.RowKit Go.ChangeShapes Go.WideShapes
namespace Go.Proofs.YtjlfgbaphnpbfaaDoor.Sx.M5
set_option linter.unusedVariables false
set_option linter.unusedSimpArgs false
theorem u64_of_wf {x : Int} (h : (Lit.int .u64 x).wf = true) : 0 ≤ x ∧ x < 18446744073709551616 := by
  simp [Lit.wf, IntKind.min, IntKind.max, IntKind.signed, IntKind.bits] at h
  omega
section
variable {H : Type} {enc : TypeId × Value → H} {w : World} {base : Nat} {spare : Nat → Bool} {held : Bool}
/-- Bits as they are handed over. -/
abbrev SpOk (a b : Int) : Prop := (0 ≤ a ∧ a < 18446744073709551616) ∧ (0 ≤ b ∧ b < 18446744073709551616)
theorem open_span {r : Reach} {b0 : Nat} {v : Value} {d : DataW H} {p : List MemPlace} (hv : Value.okWide Tryd.prog w r b0 24 v) (h : DataW.Trod enc Tryd.prog w base spare held 24 v d p) : ∃ a b : Int, SpOk a b ∧ ∀ ρ, Rep ρ (fun b => w.heap[b]?) (.agg [.v (.int .u64 a), .v (.int .u64 b)]) v := by
  obtain ⟨cs, rfl, _⟩ := okWide_struct Tryd.underlying24 hv
  obtain ⟨fuel, h⟩ := h
  obtain ⟨ns, hn, e, hw⟩ := flat_open (P := Tryd.prog) 8 24 [.u64, .u64] fuel _ _ (by kernel_rfl) h
  match ns, hn, e, hw with
  | [a, b], _, e, hw =>
    have e : cs.toList = [.int .u64 a, .int .u64 b] := e
    obtain rfl : cs = #[.int .u64 a, .int .u64 b] := Array.toList_inj.1 e
    exact ⟨a, b, ⟨u64_of_wf hw.1, u64_of_wf hw.2.1⟩, fun ρ => .agg _ _ (.cons (.v _) (.cons (.v _) .nil))⟩
end
theorem lKnoL_true (op w a b c e n : Int) (h2 : SpOk a b) (h3 : SpOk c e) (hn : 0 ≤ n ∧ n < 18446744073709551616) : Ok Tryd.prog 3 [.v (.int .i64 op), .v (.int .i64 w), .agg [.v (.int .u64 a), .v (.int .u64 b)], .agg [.v (.int .u64 c), .v (.int .u64 e)], .v (.int .u64 n)] (look []) (.v (.bool true)) (postOf [] []) := by
  have := lKno_ok op w a b c e n
  rwa [lKno_true op w h2.1 h2.2 h3.1 h3.2 hn] at this
end Go.Proofs.YtjlfgbaphnpbfaaDoor.Sx.M5
