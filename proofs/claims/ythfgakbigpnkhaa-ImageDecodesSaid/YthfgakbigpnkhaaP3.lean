/- What the functions of a chapter compute, as contracts; written by a program of this session. -/
import Derived.Test.YthfgakbigpnkhaaG3
open Go Go.Proofs Go.RowKit
namespace Go.Proofs.Ythfgakbigpnkhaa.Sx.C3
set_option linter.unusedVariables false
set_option linter.unusedSimpArgs false
theorem rdec_small {b : List Int} (hb : Bytes b) (h0 : b.length < 2 ^ 40) : Small (rdecode_s b).1 := by
  rw [dec_eq hb h0]; exact idec_small hb h0
end Go.Proofs.Ythfgakbigpnkhaa.Sx.C3
