/-
  DERIVED. GIVEN WITH THE SEED: THE CARDS: each row of YtidabafobpbniaaDoorRows.lean that lists a variable, with what it lists TIED to the program's text (the seventh form; the later family's looks); each row that meets fmt, with fmt's text TOLD by the authors' own Lean function (tested against real Go, not proved from fmt's source: count such statements apart). THE CARD IS WHAT COUNTS. Prove the row's statement (the work); the ties are given (YtidabafobpbniaaDoorTie.lean); close each card by the builder's one call (the guide's Derived/Test/ToyasCard.lean, 'card_holds'). Laid BY PROGRAM, IN A SANDBOX (cutbox-door.mjs). By AI agents, Wed Nov 11 2026. No macro, syntax, notation, axiom, sorry.
-/
import Derived.Test.YtidabafobpbniaaDoorRows
import GoSem.ClaimSeven
namespace Go.Proofs.YtidabafobpbniaaDoor
namespace Rows

/-- THE TIED CARD OF 'backreachlaw12.KnownHolds'. -/
def knownHoldsCard : Claim7 := { stood := { row := knownHoldsRow, standIns := [], harness := (true, "80ea4e3442c864c5a77976c64b494c3eabcfb89e868815df99151988c6bdb29d"), looks := false }, kinds := [], alts := [], laidByText := true, laidKinds := [.data], laidTests := true, laidLooks := .later }
def KnownHoldsCardSaid : Prop := Claim7.holds Tryd.pinned (.plain (OpenSpec.ofChange knownHoldsSpec)) knownHoldsCard

/-- THE TIED CARD OF 'backreachlaw12.KnownLess'. -/
def knownLessCard : Claim7 := { stood := { row := knownLessRow, standIns := [], harness := (true, "80ea4e3442c864c5a77976c64b494c3eabcfb89e868815df99151988c6bdb29d"), looks := false }, kinds := [], alts := [], laidByText := true, laidKinds := [.data], laidTests := true, laidLooks := .later }
def KnownLessCardSaid : Prop := Claim7.holds Tryd.pinned (.plain (OpenSpec.ofChange knownLessSpec)) knownLessCard

/-- THE TIED CARD OF 'backreachlaw12.KnownTells'. -/
def knownTellsCard : Claim7 := { stood := { row := knownTellsRow, standIns := [], harness := (true, "80ea4e3442c864c5a77976c64b494c3eabcfb89e868815df99151988c6bdb29d"), looks := false }, kinds := [], alts := [], laidByText := true, laidKinds := [.data], laidTests := true, laidLooks := .later }
def KnownTellsCardSaid : Prop := Claim7.holds Tryd.pinned (.plain (OpenSpec.ofChange knownTellsSpec)) knownTellsCard

/-- THE TIED CARD OF 'backreachlaw12.KnownMeets'. -/
def knownMeetsCard : Claim7 := { stood := { row := knownMeetsRow, standIns := [], harness := (true, "80ea4e3442c864c5a77976c64b494c3eabcfb89e868815df99151988c6bdb29d"), looks := false }, kinds := [], alts := [], laidByText := true, laidKinds := [.data], laidTests := true, laidLooks := .later }
def KnownMeetsCardSaid : Prop := Claim7.holds Tryd.pinned (.plain (OpenSpec.ofChange knownMeetsSpec)) knownMeetsCard

/-- THE TIED CARD OF 'backreachlaw13.SketchHolds'. -/
def sketchHoldsCard : Claim7 := { stood := { row := sketchHoldsRow, standIns := [], harness := (true, "80ea4e3442c864c5a77976c64b494c3eabcfb89e868815df99151988c6bdb29d"), looks := false }, kinds := [], alts := [], laidByText := true, laidKinds := [.data], laidTests := true, laidLooks := .later }
def SketchHoldsCardSaid : Prop := Claim7.holds Tryd.pinned (.plain (OpenSpec.ofChange sketchHoldsSpec)) sketchHoldsCard

/-- THE TIED CARD OF 'backreachlaw13.SketchDecides'. -/
def sketchDecidesCard : Claim7 := { stood := { row := sketchDecidesRow, standIns := [], harness := (true, "80ea4e3442c864c5a77976c64b494c3eabcfb89e868815df99151988c6bdb29d"), looks := false }, kinds := [], alts := [], laidByText := true, laidKinds := [.data], laidTests := true, laidLooks := .later }
def SketchDecidesCardSaid : Prop := Claim7.holds Tryd.pinned (.plain (OpenSpec.ofChange sketchDecidesSpec)) sketchDecidesCard

/-- THE SECOND FORM's CARD OF 'backreachlaw12.KnownHolds'. -/
def knownHoldsUptoCard : Claim7 := { stood := { row := knownHoldsUptoRow, standIns := [], harness := (true, "80ea4e3442c864c5a77976c64b494c3eabcfb89e868815df99151988c6bdb29d"), looks := false }, kinds := [], alts := [], laidByText := true, laidKinds := [.data], laidTests := true, laidLooks := .later }
def KnownHoldsUptoCardSaid : Prop := Claim7.holds Tryd.pinned (.plain (OpenSpec.upto knownHoldsSpec)) knownHoldsUptoCard

/-- THE SECOND FORM's CARD OF 'backreachlaw12.KnownLess'. -/
def knownLessUptoCard : Claim7 := { stood := { row := knownLessUptoRow, standIns := [], harness := (true, "80ea4e3442c864c5a77976c64b494c3eabcfb89e868815df99151988c6bdb29d"), looks := false }, kinds := [], alts := [], laidByText := true, laidKinds := [.data], laidTests := true, laidLooks := .later }
def KnownLessUptoCardSaid : Prop := Claim7.holds Tryd.pinned (.plain (OpenSpec.upto knownLessSpec)) knownLessUptoCard

/-- THE SECOND FORM's CARD OF 'backreachlaw12.KnownTells'. -/
def knownTellsUptoCard : Claim7 := { stood := { row := knownTellsUptoRow, standIns := [], harness := (true, "80ea4e3442c864c5a77976c64b494c3eabcfb89e868815df99151988c6bdb29d"), looks := false }, kinds := [], alts := [], laidByText := true, laidKinds := [.data], laidTests := true, laidLooks := .later }
def KnownTellsUptoCardSaid : Prop := Claim7.holds Tryd.pinned (.plain (OpenSpec.upto knownTellsSpec)) knownTellsUptoCard

/-- THE SECOND FORM's CARD OF 'backreachlaw12.KnownMeets'. -/
def knownMeetsUptoCard : Claim7 := { stood := { row := knownMeetsUptoRow, standIns := [], harness := (true, "80ea4e3442c864c5a77976c64b494c3eabcfb89e868815df99151988c6bdb29d"), looks := false }, kinds := [], alts := [], laidByText := true, laidKinds := [.data], laidTests := true, laidLooks := .later }
def KnownMeetsUptoCardSaid : Prop := Claim7.holds Tryd.pinned (.plain (OpenSpec.upto knownMeetsSpec)) knownMeetsUptoCard

/-- THE SECOND FORM's CARD OF 'backreachlaw13.SketchHolds'. -/
def sketchHoldsUptoCard : Claim7 := { stood := { row := sketchHoldsUptoRow, standIns := [], harness := (true, "80ea4e3442c864c5a77976c64b494c3eabcfb89e868815df99151988c6bdb29d"), looks := false }, kinds := [], alts := [], laidByText := true, laidKinds := [.data], laidTests := true, laidLooks := .later }
def SketchHoldsUptoCardSaid : Prop := Claim7.holds Tryd.pinned (.plain (OpenSpec.upto sketchHoldsSpec)) sketchHoldsUptoCard

/-- THE SECOND FORM's CARD OF 'backreachlaw13.SketchDecides'. -/
def sketchDecidesUptoCard : Claim7 := { stood := { row := sketchDecidesUptoRow, standIns := [], harness := (true, "80ea4e3442c864c5a77976c64b494c3eabcfb89e868815df99151988c6bdb29d"), looks := false }, kinds := [], alts := [], laidByText := true, laidKinds := [.data], laidTests := true, laidLooks := .later }
def SketchDecidesUptoCardSaid : Prop := Claim7.holds Tryd.pinned (.plain (OpenSpec.upto sketchDecidesSpec)) sketchDecidesUptoCard
end Rows
end Go.Proofs.YtidabafobpbniaaDoor
