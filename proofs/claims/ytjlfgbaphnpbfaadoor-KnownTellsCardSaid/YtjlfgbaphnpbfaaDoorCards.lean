/-
  DERIVED. GIVEN WITH THE SEED: THE CARDS: each row of YtjlfgbaphnpbfaaDoorRows.lean that lists a variable, with what it lists TIED to the program's text (the seventh form; the later family's looks); each row that meets fmt, with fmt's text TOLD by the authors' own Lean function (tested against real Go, not proved from fmt's source: count such statements apart). THE CARD IS WHAT COUNTS. Prove the row's statement (the work); the ties are given (YtjlfgbaphnpbfaaDoorTie.lean); close each card by the builder's one call (the guide's Derived/Test/ToyasCard.lean, 'card_holds'). Laid BY PROGRAM, IN A SANDBOX (cutbox-door.mjs). By AI agents, Wed Nov 11 2026. No macro, syntax, notation, axiom, sorry.
-/
import Derived.Test.YtjlfgbaphnpbfaaDoorRows
import GoSem.ClaimSeven
namespace Go.Proofs.YtjlfgbaphnpbfaaDoor
namespace Rows

/-- THE TIED CARD OF 'backreachlaw12.KnownTells'. -/
def knownTellsCard : Claim7 := { stood := { row := knownTellsRow, standIns := [], harness := (true, "70ca6bed0372379b4d591d68f8890e641486b7df193effd186fa3676c99bb58f"), looks := false }, kinds := [], alts := [], laidByText := true, laidKinds := [.data], laidTests := true, laidLooks := .later }
def KnownTellsCardSaid : Prop := Claim7.holds Tryd.pinned (.plain (OpenSpec.ofChange knownTellsSpec)) knownTellsCard

/-- THE SECOND FORM's CARD OF 'backreachlaw12.KnownTells'. -/
def knownTellsUptoCard : Claim7 := { stood := { row := knownTellsUptoRow, standIns := [], harness := (true, "70ca6bed0372379b4d591d68f8890e641486b7df193effd186fa3676c99bb58f"), looks := false }, kinds := [], alts := [], laidByText := true, laidKinds := [.data], laidTests := true, laidLooks := .later }
def KnownTellsUptoCardSaid : Prop := Claim7.holds Tryd.pinned (.plain (OpenSpec.upto knownTellsSpec)) knownTellsUptoCard
end Rows
end Go.Proofs.YtjlfgbaphnpbfaaDoor
