/- word.Apply, by hand: what it answers. -/
import Derived.Test.YtidabafobpbniaaDoorPx2
import Derived.Test.YtidabafobpbniaaDoorPx4
import Derived.Test.YtidabafobpbniaaDoorPx4
import Derived.Test.YtidabafobpbniaaDoorPx5
namespace Go.Proofs.YtidabafobpbniaaDoor.P
open Go.RowKit Go.Proofs.YtidabafobpbniaaDoorW.PrintWords Go.Proofs.YtidabafobpbniaaDoorW.PrintLast Go.Proofs.YtidabafobpbniaaDoorW.PrintMore
set_option linter.unusedVariables false
set_option linter.unusedSimpArgs false
/-- What an operation answers, ahead of the last cut: of cut words, their quotient and rest. -/
def word_out (op w x y q r : Int) : Option Int :=
  if op = 5 then some (Go.bits .xor .u64 18446744073709551615 x)
  else if op = 9 then some (IntKind.u64.wrap (x + IntKind.u64.wrap (-y)))
  else if op = 8 then some (IntKind.u64.wrap (x + y))
  else if op = 10 then some (IntKind.u64.wrap (x * y))
  else if op = 11 then some q
  else if op = 12 then some r
  else if op = 13 then some (Go.bits .and .u64 x y)
  else if op = 14 then some (Go.bits .or .u64 x y)
  else if op = 15 then some (Go.bits .xor .u64 x y)
  else if op = 16 then (if y ≥ IntKind.u64.wrap w then some 0 else some (shl .u64 x y))
  else if op = 17 then (if y ≥ IntKind.u64.wrap w then some 0 else some (shr .u64 x y))
  else if op = 18 then (word_Sign.f w x).bind fun s => (if y ≥ IntKind.u64.wrap w then some (IntKind.u64.wrap (s / 9223372036854775808)) else some (IntKind.u64.wrap (shr .i64 s y)))
  else if op = 19 then word_flag.f (x == y)
  else if op = 21 then (if 0 ≤ wrap64 (w - 1) then word_flag.f (decide (Go.bits .xor .u64 x (shl .u64 1 (wrap64 (w - 1))) < Go.bits .xor .u64 y (shl .u64 1 (wrap64 (w - 1))))) else none)
  else if op = 20 then word_flag.f (decide (x < y))
  else some 0
def word_Apply.f (op w_ x y : Int) : Option Int :=
  (word_width.f w_).bind fun w1 => (word_Cut.f w1 x).bind fun x1 => (word_Cut.f w1 y).bind fun y1 => if 0 ≤ y1 then ((word_parts.f w1 x1 y1).bind fun q => (word_out op w1 x1 y1 q.1 q.2).bind fun out => word_Cut.f w1 out) else none

end Go.Proofs.YtidabafobpbniaaDoor.P
