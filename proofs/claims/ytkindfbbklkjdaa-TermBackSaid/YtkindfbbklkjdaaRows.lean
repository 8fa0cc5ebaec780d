/-
  No cell of these rows narrows 'for every input' (looked for: loops, veiled, ifaces, maps, wideKeys, modest, calm, conditions, laid).
  DERIVED. THE GIVEN ROWS OF THIS SEAT. 6 by the template 'for every input the law returns true; each argument reads behind the call as it read before'; 0 by the template 'total and deterministic' (their statements: YtkindfbbklkjdaaTotals.lean).
  GIVEN WITH THE SEED: the statements are not yours to turn. If you find one false, say at which input.
  Laid BY PROGRAM, IN A SANDBOX (cutbox-rows.mjs): the forced cells as the released guide's own fill.sh prints them over the translation 72f51545c06437ae… (all of the seat's roots in one cut). By AI agents, Wed Nov 11 2026. No macro, syntax, notation, axiom, sorry.
-/
import Derived.Test.YtkindfbbklkjdaaChecked
import GoSem.Claim
import GoSem.ClaimJoined
import GoSem.ClaimMapViews
import Derived.JoinedTies
import Derived.KernelRfl
namespace Go.Proofs.Ytkindfbbklkjdaa
/- THE CELL 'sum', in the pinned program and in every row, IS THE sha256 OF THE DUMP (.gsa) THAT YtkindfbbklkjdaaProg.lean LOADS. Nothing in Lean hashes anything: it is a label: what it is worth is what the hold of that sum in a sandbox is worth. -/
noncomputable def Try.pinned : Pinned := { name := "ytkindfbbklkjdaa", sum := "72f51545c06437aee491794b752f0d2d828c8a0dd123e9258d2603186a29c10a", checked := Try.checked }
namespace Rows
def none {H : Type} : Left H := { results := [], args := [] }

/-- 'backreachlaw06.TermMakes': WHATEVER THE INPUT: true; the input reads as it did. -/
def termMakesSpec : ChangeSpec := { name := "termMakes", fn := fun _ => fun
  | [d] => { results := [.lit (.bool true)], args := [d] }
  | _ => none }
def termMakesRow : OpenClaim := { program := "ytkindfbbklkjdaa", sum := "72f51545c06437aee491794b752f0d2d828c8a0dd123e9258d2603186a29c10a", func := "backreach/backreachlaw06.TermMakes", spec := "termMakes", inPlace := ["sync/atomic.AddInt64", "sync/atomic.LoadInt64"], plainKeys := false, apart := false }
def TermMakesSaid : Prop := termMakesRow.holds Try.pinned (OpenSpec.ofChange termMakesSpec)

/-- ITS FALSE NEIGHBOUR: 'it returns false'. Refute it at one input. -/
def termMakesWrong : ChangeSpec := { name := "termMakes", fn := fun _ => fun
  | [d] => { results := [.lit (.bool false)], args := [d] }
  | _ => none }
def TermMakesWrongFalsely : Prop := termMakesRow.holds Try.pinned (OpenSpec.ofChange termMakesWrong)

/-- 'backreachlaw06.TermChecks': WHATEVER THE INPUT: true; the input reads as it did. -/
def termChecksSpec : ChangeSpec := { name := "termChecks", fn := fun _ => fun
  | [d1, d2] => { results := [.lit (.bool true)], args := [d1, d2] }
  | _ => none }
def termChecksRow : OpenClaim := { program := "ytkindfbbklkjdaa", sum := "72f51545c06437aee491794b752f0d2d828c8a0dd123e9258d2603186a29c10a", func := "backreach/backreachlaw06.TermChecks", spec := "termChecks", inPlace := ["sync/atomic.AddInt64"], plainKeys := false, apart := false }
def TermChecksSaid : Prop := termChecksRow.holds Try.pinned (OpenSpec.ofChange termChecksSpec)

/-- ITS FALSE NEIGHBOUR: 'it returns false'. Refute it at one input. -/
def termChecksWrong : ChangeSpec := { name := "termChecks", fn := fun _ => fun
  | [d1, d2] => { results := [.lit (.bool false)], args := [d1, d2] }
  | _ => none }
def TermChecksWrongFalsely : Prop := termChecksRow.holds Try.pinned (OpenSpec.ofChange termChecksWrong)

/-- 'backreachlaw06.TermParts': WHATEVER THE INPUT: true; the input reads as it did. -/
def termPartsSpec : ChangeSpec := { name := "termParts", fn := fun _ => fun
  | [d1, d2, d3] => { results := [.lit (.bool true)], args := [d1, d2, d3] }
  | _ => none }
def termPartsRow : OpenClaim := { program := "ytkindfbbklkjdaa", sum := "72f51545c06437aee491794b752f0d2d828c8a0dd123e9258d2603186a29c10a", func := "backreach/backreachlaw06.TermParts", spec := "termParts", inPlace := ["sync/atomic.AddInt64"], plainKeys := false, apart := false }
def TermPartsSaid : Prop := termPartsRow.holds Try.pinned (OpenSpec.ofChange termPartsSpec)

/-- ITS FALSE NEIGHBOUR: 'it returns false'. Refute it at one input. -/
def termPartsWrong : ChangeSpec := { name := "termParts", fn := fun _ => fun
  | [d1, d2, d3] => { results := [.lit (.bool false)], args := [d1, d2, d3] }
  | _ => none }
def TermPartsWrongFalsely : Prop := termPartsRow.holds Try.pinned (OpenSpec.ofChange termPartsWrong)

/-- 'backreachlaw06.TermPuts': WHATEVER THE INPUT: true; the input reads as it did. -/
def termPutsSpec : ChangeSpec := { name := "termPuts", fn := fun _ => fun
  | [d1, d2] => { results := [.lit (.bool true)], args := [d1, d2] }
  | _ => none }
def termPutsRow : OpenClaim := { program := "ytkindfbbklkjdaa", sum := "72f51545c06437aee491794b752f0d2d828c8a0dd123e9258d2603186a29c10a", func := "backreach/backreachlaw06.TermPuts", spec := "termPuts", inPlace := ["sync/atomic.AddInt64"], plainKeys := false, apart := false }
def TermPutsSaid : Prop := termPutsRow.holds Try.pinned (OpenSpec.ofChange termPutsSpec)

/-- ITS FALSE NEIGHBOUR: 'it returns false'. Refute it at one input. -/
def termPutsWrong : ChangeSpec := { name := "termPuts", fn := fun _ => fun
  | [d1, d2] => { results := [.lit (.bool false)], args := [d1, d2] }
  | _ => none }
def TermPutsWrongFalsely : Prop := termPutsRow.holds Try.pinned (OpenSpec.ofChange termPutsWrong)

/-- 'backreachlaw06.TermBack': WHATEVER THE INPUT: true; the input reads as it did. -/
def termBackSpec : ChangeSpec := { name := "termBack", fn := fun _ => fun
  | [d] => { results := [.lit (.bool true)], args := [d] }
  | _ => none }
def termBackRow : OpenClaim := { program := "ytkindfbbklkjdaa", sum := "72f51545c06437aee491794b752f0d2d828c8a0dd123e9258d2603186a29c10a", func := "backreach/backreachlaw06.TermBack", spec := "termBack", inPlace := ["sync/atomic.AddInt64"], plainKeys := false, apart := false }
def TermBackSaid : Prop := termBackRow.holds Try.pinned (OpenSpec.ofChange termBackSpec)

/-- ITS FALSE NEIGHBOUR: 'it returns false'. Refute it at one input. -/
def termBackWrong : ChangeSpec := { name := "termBack", fn := fun _ => fun
  | [d] => { results := [.lit (.bool false)], args := [d] }
  | _ => none }
def TermBackWrongFalsely : Prop := termBackRow.holds Try.pinned (OpenSpec.ofChange termBackWrong)

/-- 'backreachlaw06.TermStays': WHATEVER THE INPUT: true; the input reads as it did. -/
def termStaysSpec : ChangeSpec := { name := "termStays", fn := fun _ => fun
  | [d1, d2, d3] => { results := [.lit (.bool true)], args := [d1, d2, d3] }
  | _ => none }
def termStaysRow : OpenClaim := { program := "ytkindfbbklkjdaa", sum := "72f51545c06437aee491794b752f0d2d828c8a0dd123e9258d2603186a29c10a", func := "backreach/backreachlaw06.TermStays", spec := "termStays", inPlace := ["sync/atomic.AddInt64"], plainKeys := false, apart := false }
def TermStaysSaid : Prop := termStaysRow.holds Try.pinned (OpenSpec.ofChange termStaysSpec)

/-- ITS FALSE NEIGHBOUR: 'it returns false'. Refute it at one input. -/
def termStaysWrong : ChangeSpec := { name := "termStays", fn := fun _ => fun
  | [d1, d2, d3] => { results := [.lit (.bool false)], args := [d1, d2, d3] }
  | _ => none }
def TermStaysWrongFalsely : Prop := termStaysRow.holds Try.pinned (OpenSpec.ofChange termStaysWrong)

/- THE SECOND FORM. 'bulk': how many values and letters a reading holds, each counted each time it is reached (what is shared counts as often as it is met; a slice's spare places count too). A statement '..UptoSaid' is the law's where the arguments, and the package variables that the reading takes, are together of bulk at most 1048576: NARROWER than '..Said'. Prove '..Said' where nothing that the law and all that it calls make is longer than what came in: it says more and counts as full. Else prove '..UptoSaid'. A law counts once. -/
mutual
def uptoBulk {H : Type} : DataW H → Nat
  | .lit (.string bytes) => bytes.length + 1
  | .lit _ => 1
  | .nil => 1
  | .ptr d => uptoBulk d + 1
  | .slice elems spare => uptoBulkAll elems + uptoBulkAll spare + 1
  | .agg parts => uptoBulkAll parts + 1
  | .iface _ d => uptoBulk d + 1
  | .map entries => uptoBulkEntries entries + 1
  | .held _ => 1
def uptoBulkAll {H : Type} : List (DataW H) → Nat
  | [] => 0
  | d :: r => uptoBulk d + uptoBulkAll r
def uptoBulkEntries {H : Type} : List (Lit × DataW H) → Nat
  | [] => 0
  | x :: r => uptoBulkEntry x + uptoBulkEntries r
def uptoBulkEntry {H : Type} : Lit × DataW H → Nat
  | (.string bytes, d) => bytes.length + uptoBulk d + 1
  | (_, d) => uptoBulk d + 1
 end
def uptoSmall : (H : Type) → List (DataW H) → Bool := fun _ ds => decide (uptoBulkAll ds ≤ 1048576)
def OpenSpec.upto (s : _root_.Go.ChangeSpec) : _root_.Go.OpenSpec := { _root_.Go.OpenSpec.ofChange s with cond := some uptoSmall }

/-- 'backreachlaw06.TermMakes', WHERE WHAT IT READS IS OF BULK AT MOST 1048576: true; the input reads as it did. -/
def termMakesUptoRow : OpenClaim := { program := "ytkindfbbklkjdaa", sum := "72f51545c06437aee491794b752f0d2d828c8a0dd123e9258d2603186a29c10a", func := "backreach/backreachlaw06.TermMakes", spec := "termMakes", inPlace := ["sync/atomic.AddInt64", "sync/atomic.LoadInt64"], plainKeys := false, apart := false, narrowed := true }
def TermMakesUptoSaid : Prop := termMakesUptoRow.holds Try.pinned (OpenSpec.upto termMakesSpec)

/-- 'backreachlaw06.TermChecks', WHERE WHAT IT READS IS OF BULK AT MOST 1048576: true; the input reads as it did. -/
def termChecksUptoRow : OpenClaim := { program := "ytkindfbbklkjdaa", sum := "72f51545c06437aee491794b752f0d2d828c8a0dd123e9258d2603186a29c10a", func := "backreach/backreachlaw06.TermChecks", spec := "termChecks", inPlace := ["sync/atomic.AddInt64"], plainKeys := false, apart := false, narrowed := true }
def TermChecksUptoSaid : Prop := termChecksUptoRow.holds Try.pinned (OpenSpec.upto termChecksSpec)

/-- 'backreachlaw06.TermParts', WHERE WHAT IT READS IS OF BULK AT MOST 1048576: true; the input reads as it did. -/
def termPartsUptoRow : OpenClaim := { program := "ytkindfbbklkjdaa", sum := "72f51545c06437aee491794b752f0d2d828c8a0dd123e9258d2603186a29c10a", func := "backreach/backreachlaw06.TermParts", spec := "termParts", inPlace := ["sync/atomic.AddInt64"], plainKeys := false, apart := false, narrowed := true }
def TermPartsUptoSaid : Prop := termPartsUptoRow.holds Try.pinned (OpenSpec.upto termPartsSpec)

/-- 'backreachlaw06.TermPuts', WHERE WHAT IT READS IS OF BULK AT MOST 1048576: true; the input reads as it did. -/
def termPutsUptoRow : OpenClaim := { program := "ytkindfbbklkjdaa", sum := "72f51545c06437aee491794b752f0d2d828c8a0dd123e9258d2603186a29c10a", func := "backreach/backreachlaw06.TermPuts", spec := "termPuts", inPlace := ["sync/atomic.AddInt64"], plainKeys := false, apart := false, narrowed := true }
def TermPutsUptoSaid : Prop := termPutsUptoRow.holds Try.pinned (OpenSpec.upto termPutsSpec)

/-- 'backreachlaw06.TermBack', WHERE WHAT IT READS IS OF BULK AT MOST 1048576: true; the input reads as it did. -/
def termBackUptoRow : OpenClaim := { program := "ytkindfbbklkjdaa", sum := "72f51545c06437aee491794b752f0d2d828c8a0dd123e9258d2603186a29c10a", func := "backreach/backreachlaw06.TermBack", spec := "termBack", inPlace := ["sync/atomic.AddInt64"], plainKeys := false, apart := false, narrowed := true }
def TermBackUptoSaid : Prop := termBackUptoRow.holds Try.pinned (OpenSpec.upto termBackSpec)

/-- 'backreachlaw06.TermStays', WHERE WHAT IT READS IS OF BULK AT MOST 1048576: true; the input reads as it did. -/
def termStaysUptoRow : OpenClaim := { program := "ytkindfbbklkjdaa", sum := "72f51545c06437aee491794b752f0d2d828c8a0dd123e9258d2603186a29c10a", func := "backreach/backreachlaw06.TermStays", spec := "termStays", inPlace := ["sync/atomic.AddInt64"], plainKeys := false, apart := false, narrowed := true }
def TermStaysUptoSaid : Prop := termStaysUptoRow.holds Try.pinned (OpenSpec.upto termStaysSpec)

end Rows
end Go.Proofs.Ytkindfbbklkjdaa
