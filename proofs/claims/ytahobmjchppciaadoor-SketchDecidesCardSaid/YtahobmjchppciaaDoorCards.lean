/-
  DERIVED. GIVEN WITH THE SEED: THE CARDS: each row of YtahobmjchppciaaDoorRows.lean that lists a variable, with what it lists TIED to the program's text (the seventh form; the later family's looks); each row that meets fmt, with fmt's text TOLD by the authors' own Lean function (tested against real Go, not proved from fmt's source: count such statements apart). THE CARD IS WHAT COUNTS. Prove the row's statement (the work); the ties are given (YtahobmjchppciaaDoorTie.lean); close each card by the builder's one call (the guide's Derived/Test/ToyasCard.lean, 'card_holds'). Laid BY PROGRAM, IN A SANDBOX (cutbox-door.mjs). By AI agents, Wed Nov 11 2026. No macro, syntax, notation, axiom, sorry.
-/
import Derived.Test.YtahobmjchppciaaDoorRows
import GoSem.ClaimSeven
namespace Go.Proofs.YtahobmjchppciaaDoor
namespace Rows

/-- THE TIED CARD OF 'backreachlaw13.SketchHolds'. -/
def sketchHoldsCard : Claim7 := { stood := { row := sketchHoldsRow, standIns := [], harness := (true, "c875861ff7e3ccc0723cbea8e2b913a04d1526233d6d8de84bba741603e779db"), looks := false }, kinds := [], alts := [], laidByText := true, laidKinds := [.data], laidTests := true, laidLooks := .later }
def SketchHoldsCardSaid : Prop := Claim7.holds Tryd.pinned (.plain (OpenSpec.ofChange sketchHoldsSpec)) sketchHoldsCard

/-- THE TIED CARD OF 'backreachlaw13.SketchDecides'. -/
def sketchDecidesCard : Claim7 := { stood := { row := sketchDecidesRow, standIns := [], harness := (true, "c875861ff7e3ccc0723cbea8e2b913a04d1526233d6d8de84bba741603e779db"), looks := false }, kinds := [], alts := [], laidByText := true, laidKinds := [.data], laidTests := true, laidLooks := .later }
def SketchDecidesCardSaid : Prop := Claim7.holds Tryd.pinned (.plain (OpenSpec.ofChange sketchDecidesSpec)) sketchDecidesCard

/-- THE SECOND FORM's CARD OF 'backreachlaw13.SketchHolds'. -/
def sketchHoldsUptoCard : Claim7 := { stood := { row := sketchHoldsUptoRow, standIns := [], harness := (true, "c875861ff7e3ccc0723cbea8e2b913a04d1526233d6d8de84bba741603e779db"), looks := false }, kinds := [], alts := [], laidByText := true, laidKinds := [.data], laidTests := true, laidLooks := .later }
def SketchHoldsUptoCardSaid : Prop := Claim7.holds Tryd.pinned (.plain (OpenSpec.upto sketchHoldsSpec)) sketchHoldsUptoCard

/-- THE SECOND FORM's CARD OF 'backreachlaw13.SketchDecides'. -/
def sketchDecidesUptoCard : Claim7 := { stood := { row := sketchDecidesUptoRow, standIns := [], harness := (true, "c875861ff7e3ccc0723cbea8e2b913a04d1526233d6d8de84bba741603e779db"), looks := false }, kinds := [], alts := [], laidByText := true, laidKinds := [.data], laidTests := true, laidLooks := .later }
def SketchDecidesUptoCardSaid : Prop := Claim7.holds Tryd.pinned (.plain (OpenSpec.upto sketchDecidesSpec)) sketchDecidesUptoCard
end Rows
end Go.Proofs.YtahobmjchppciaaDoor
