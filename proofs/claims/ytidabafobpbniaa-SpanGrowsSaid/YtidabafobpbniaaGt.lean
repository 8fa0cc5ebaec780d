/- span.table, by hand: what the table says, of all operations. -/
import Derived.Test.YtidabafobpbniaaGp
import Derived.Test.YtidabafobpbniaaGa
namespace Go.Proofs.Ytidabafobpbniaa.P
open Go.RowKit Go.Proofs.YtidabafobpbniaaW.PrintWords Go.Proofs.YtidabafobpbniaaW.PrintLast Go.Proofs.YtidabafobpbniaaW.PrintMore
set_option linter.unusedVariables false
set_option linter.unusedSimpArgs false
/-! ### span_table: function 23 -/
def span_table.f (k : Nat) (op w x0 x1 y0 y1 : Int) : Option (Int × Int) :=
  if op = 8 then span_add.f w x0 x1 y0 y1 else if op = 9 then span_take.f w x0 x1 y0 y1 else span_tableP.f k op w x0 x1 y0 y1
theorem span_table.mono : ∀ a0 a1 a2 a3 a4 a5 k, LeO (span_table.f k a0 a1 a2 a3 a4 a5) (span_table.f (k + 1) a0 a1 a2 a3 a4 a5) := by
  intro a0 a1 a2 a3 a4 a5 k
  unfold span_table.f
  refine LeO.ite (LeO.refl _) (LeO.ite (LeO.refl _) (span_tableP.mono _ _ _ _ _ _ _))
theorem span_table.calls (k : Nat) (a0 : Int) (a1 : Int) (a2_0 : Int) (a2_1 : Int) (a3_0 : Int) (a3_1 : Int) (r1 : Int) (r2 : Int) (w : World) (h : span_table.f k a0 a1 a2_0 a2_1 a3_0 a3_1 = some (r1, r2)) :
    Calls Try.prog 23 #[.int .i64 a0, .int .i64 a1, .agg #[.int .u64 a2_0, .int .u64 a2_1], .agg #[.int .u64 a3_0, .int .u64 a3_1]] w fun e w' => e = .returned (.agg #[.int .u64 r1, .int .u64 r2]) ∧ Below w.heap.size w w' := by
  unfold span_table.f at h
  by_cases c : a0 = 8
  · rw [if_pos c] at h; subst c
    exact span_table.op8 a1 a2_0 a2_1 a3_0 a3_1 r1 r2 w h
  · rw [if_neg c] at h
    by_cases d : a0 = 9
    · rw [if_pos d] at h; subst d
      exact span_table.op9 a1 a2_0 a2_1 a3_0 a3_1 r1 r2 w h
    · rw [if_neg d] at h
      exact span_tableP.calls k a0 a1 a2_0 a2_1 a3_0 a3_1 r1 r2 w h
end Go.Proofs.Ytidabafobpbniaa.P
