/- The row's condition: the library's table lies in its variable; a world in which it does. -/
import Derived.Test.YtjlfgbaphnpbfaaDoorK17
import Derived.Test.YtjlfgbaphnpbfaaDoorRows
import Derived.Lib.LaidU8
import Derived.Lib.LaidIn
import Derived.LaidHandle
import Derived.LaidSub
open Go Go.Proofs Go.RowKit Go.ChangeShapes Go.WideShapes
namespace Go.Proofs.YtjlfgbaphnpbfaaDoor.Sx.M5
set_option linter.unusedVariables false
set_option linter.unusedSimpArgs false
theorem gTab : Tryd.prog.globalNamed "math/bits.deBruijn64tab" = some 0 := by kernel_rfl
theorem gTabType : (Tryd.prog.globals[0]?).map (·.type) = some 79 := by kernel_rfl
theorem laid_tab : YtjlfgbaphnpbfaaDoor.Rows.laid_math_bits_deBruijn64tab = (Lib.tabData .u8 (Lib.deBruijn64tab.map fun n : Nat => (n : Int)) : DataW Unit) := by kernel_rfl
theorem tab_of_laid {W : World} (h : laidMetH Tryd.prog [("math/bits.deBruijn64tab", YtjlfgbaphnpbfaaDoor.Rows.laid_math_bits_deBruijn64tab)] W) : GG (fun b => W.heap[b]?) := by
  have h1 : laidMet Tryd.prog [("math/bits.deBruijn64tab", YtjlfgbaphnpbfaaDoor.Rows.laid_math_bits_deBruijn64tab)] W := (laidMetH_iff.1 h).1
  obtain ⟨g, t, cs, fuel, p, e1, e2, e3, e4⟩ := Lib.laidMet.reads h1 (.head _)
  obtain rfl := Option.some.inj (gTab.symm.trans e1)
  obtain rfl := Option.some.inj (gTabType.symm.trans e2)
  rw [laid_tab] at e4
  have hc := Lib.cells_of_tab Tryd.underlying79 Tryd.underlying5 (by kernel_rfl) (by kernel_rfl) e4
  unfold World.var? at e3
  rw [gTab] at e3
  simp only [Option.bind_some] at e3
  cases ho : W.heap[0]? with
  | none => rw [ho] at e3; cases e3
  | some o =>
    rw [ho] at e3
    cases o with
    | cells cs' t' f' =>
      obtain rfl := Option.some.inj e3
      refine ⟨_, _, _, ho, fun j hj => ?_⟩
      rw [← Array.getElem?_toList, hc]
      simp only [List.getElem?_map]
      have hl : Lib.deBruijn64tab.length = 64 := by decide
      rw [List.getElem?_eq_getElem (by omega), List.getD_eq_getElem?_getD, List.getElem?_eq_getElem (by omega)]
      rfl
    | _ => cases e3
noncomputable def laidWorld (os : Os) : World :=
  let w0 := World.holding Tryd.prog os ⟨#[], #[], []⟩
  { w0 with heap := w0.heap.modify 0 fun
      | .cells _ t frozen => .cells (Lib.deBruijn64tab.map fun z : Nat => Value.int .u8 (z : Int)).toArray t frozen
      | o => o }
theorem laid_met (os : Os) (args : Array Value) : laidMetH Tryd.prog [("math/bits.deBruijn64tab", YtjlfgbaphnpbfaaDoor.Rows.laid_math_bits_deBruijn64tab)] ((laidWorld os).forCall (fun _ _ => 0) ⟨#[], args, []⟩).memory :=
  laidMetH_of_parts (LaidIn.of_run [0] 8 (by kernel_rfl) (by kernel_rfl) (by kernel_rfl) (by kernel_rfl)).met (by kernel_rfl)
end Go.Proofs.YtjlfgbaphnpbfaaDoor.Sx.M5
