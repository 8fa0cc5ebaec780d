/-
  DERIVED. GIVEN WITH THE SEED: THE CARDS: each row of YtdfifogicefkjaaGreatDoorRows.lean that lists a variable, with what it lists TIED to the program's text (the seventh form; the later family's looks); each row that meets fmt, with fmt's text TOLD by the authors' own Lean function (tested against real Go, not proved from fmt's source: count such statements apart). THE CARD IS WHAT COUNTS. Prove the row's statement (the work); the ties are given (YtdfifogicefkjaaGreatDoorTie.lean); close each card by the builder's one call (the guide's Derived/Test/ToyasCard.lean, 'card_holds'). Laid BY PROGRAM, IN A SANDBOX (cutbox-door.mjs). By AI agents, Wed Nov 11 2026. No macro, syntax, notation, axiom, sorry.
-/
import Derived.Test.YtdfifogicefkjaaGreatDoorRows
import GoSem.ClaimSeven
namespace Go.Proofs.YtdfifogicefkjaaGreatDoor
namespace Rows

/-- THE TIED CARD OF 'backreachlaw13.SketchTells'. -/
def sketchTellsCard : Claim7 := { stood := { row := sketchTellsRow, standIns := [], harness := (true, "5206fa3c27dd3b2e0573967c4e4ce470eb925af7be3c13beb39689e8452e7f41"), looks := false }, kinds := [], alts := [], laidByText := true, laidKinds := [.data], laidTests := true, laidLooks := .later }
def SketchTellsCardSaid : Prop := Claim7.holds Tryz.pinned (.plain (OpenSpec.ofChange sketchTellsSpec)) sketchTellsCard

/-- THE SECOND FORM's CARD OF 'backreachlaw13.SketchTells'. -/
def sketchTellsUptoCard : Claim7 := { stood := { row := sketchTellsUptoRow, standIns := [], harness := (true, "5206fa3c27dd3b2e0573967c4e4ce470eb925af7be3c13beb39689e8452e7f41"), looks := false }, kinds := [], alts := [], laidByText := true, laidKinds := [.data], laidTests := true, laidLooks := .later }
def SketchTellsUptoCardSaid : Prop := Claim7.holds Tryz.pinned (.plain (OpenSpec.upto sketchTellsSpec)) sketchTellsUptoCard
end Rows
end Go.Proofs.YtdfifogicefkjaaGreatDoor
