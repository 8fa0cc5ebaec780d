/-
  No cell of these rows narrows 'for every input' (looked for: loops, veiled, ifaces, maps, wideKeys, modest, calm, conditions, laid).
  DERIVED. THE GIVEN ROWS OF THIS SEAT. 6 by the template 'for every input the law returns true; each argument reads behind the call as it read before'; 0 by the template 'total and deterministic' (their statements: YthfgakbigpnkhaaTotals.lean).
  GIVEN WITH THE SEED: the statements are not yours to turn. If you find one false, say at which input.
  Laid BY PROGRAM, IN A SANDBOX (cutbox-rows.mjs): the forced cells as the released guide's own fill.sh prints them over the translation 54a13892a3381031… (all of the seat's roots in one cut). By AI agents, Wed Nov 11 2026. No macro, syntax, notation, axiom, sorry.
-/
import Derived.Test.YthfgakbigpnkhaaChecked
import GoSem.Claim
import GoSem.ClaimJoined
import GoSem.ClaimMapViews
import Derived.JoinedTies
import Derived.KernelRfl
namespace Go.Proofs.Ythfgakbigpnkhaa
/- THE CELL 'sum', in the pinned program and in every row, IS THE sha256 OF THE DUMP (.gsa) THAT YthfgakbigpnkhaaProg.lean LOADS. Nothing in Lean hashes anything: it is a label: what it is worth is what the hold of that sum in a sandbox is worth. -/
noncomputable def Try.pinned : Pinned := { name := "ythfgakbigpnkhaa", sum := "54a13892a3381031ef0da52f1b21bedc51a265ad40822e9623108c41fc303891", checked := Try.checked }
namespace Rows
def none {H : Type} : Left H := { results := [], args := [] }

/-- 'backreachlaw03.ImageDecodes': WHATEVER THE INPUT: true; the input reads as it did. -/
def imageDecodesSpec : ChangeSpec := { name := "imageDecodes", fn := fun _ => fun
  | [d] => { results := [.lit (.bool true)], args := [d] }
  | _ => none }
def imageDecodesRow : OpenClaim := { program := "ythfgakbigpnkhaa", sum := "54a13892a3381031ef0da52f1b21bedc51a265ad40822e9623108c41fc303891", func := "backreach/backreachlaw03.ImageDecodes", spec := "imageDecodes", unfollowed := true, recurses := true, apart := false }
def ImageDecodesSaid : Prop := imageDecodesRow.holds Try.pinned (OpenSpec.ofChange imageDecodesSpec)

/-- ITS FALSE NEIGHBOUR: 'it returns false'. Refute it at one input. -/
def imageDecodesWrong : ChangeSpec := { name := "imageDecodes", fn := fun _ => fun
  | [d] => { results := [.lit (.bool false)], args := [d] }
  | _ => none }
def ImageDecodesWrongFalsely : Prop := imageDecodesRow.holds Try.pinned (OpenSpec.ofChange imageDecodesWrong)

/-- 'backreachlaw03.ImageCuts': WHATEVER THE INPUT: true; the input reads as it did. -/
def imageCutsSpec : ChangeSpec := { name := "imageCuts", fn := fun _ => fun
  | [d1, d2, d3] => { results := [.lit (.bool true)], args := [d1, d2, d3] }
  | _ => none }
def imageCutsRow : OpenClaim := { program := "ythfgakbigpnkhaa", sum := "54a13892a3381031ef0da52f1b21bedc51a265ad40822e9623108c41fc303891", func := "backreach/backreachlaw03.ImageCuts", spec := "imageCuts", unfollowed := true, recurses := true, apart := false }
def ImageCutsSaid : Prop := imageCutsRow.holds Try.pinned (OpenSpec.ofChange imageCutsSpec)

/-- ITS FALSE NEIGHBOUR: 'it returns false'. Refute it at one input. -/
def imageCutsWrong : ChangeSpec := { name := "imageCuts", fn := fun _ => fun
  | [d1, d2, d3] => { results := [.lit (.bool false)], args := [d1, d2, d3] }
  | _ => none }
def ImageCutsWrongFalsely : Prop := imageCutsRow.holds Try.pinned (OpenSpec.ofChange imageCutsWrong)

/-- 'backreachlaw03.ImageFaults': WHATEVER THE INPUT: true; the input reads as it did. -/
def imageFaultsSpec : ChangeSpec := { name := "imageFaults", fn := fun _ => fun
  | [d] => { results := [.lit (.bool true)], args := [d] }
  | _ => none }
def imageFaultsRow : OpenClaim := { program := "ythfgakbigpnkhaa", sum := "54a13892a3381031ef0da52f1b21bedc51a265ad40822e9623108c41fc303891", func := "backreach/backreachlaw03.ImageFaults", spec := "imageFaults", unfollowed := true, recurses := true, apart := false }
def ImageFaultsSaid : Prop := imageFaultsRow.holds Try.pinned (OpenSpec.ofChange imageFaultsSpec)

/-- ITS FALSE NEIGHBOUR: 'it returns false'. Refute it at one input. -/
def imageFaultsWrong : ChangeSpec := { name := "imageFaults", fn := fun _ => fun
  | [d] => { results := [.lit (.bool false)], args := [d] }
  | _ => none }
def ImageFaultsWrongFalsely : Prop := imageFaultsRow.holds Try.pinned (OpenSpec.ofChange imageFaultsWrong)

/-- 'backreachlaw03.ImageFlows': WHATEVER THE INPUT: true; the input reads as it did. -/
def imageFlowsSpec : ChangeSpec := { name := "imageFlows", fn := fun _ => fun
  | [d] => { results := [.lit (.bool true)], args := [d] }
  | _ => none }
def imageFlowsRow : OpenClaim := { program := "ythfgakbigpnkhaa", sum := "54a13892a3381031ef0da52f1b21bedc51a265ad40822e9623108c41fc303891", func := "backreach/backreachlaw03.ImageFlows", spec := "imageFlows", unfollowed := true, recurses := true, apart := false }
def ImageFlowsSaid : Prop := imageFlowsRow.holds Try.pinned (OpenSpec.ofChange imageFlowsSpec)

/-- ITS FALSE NEIGHBOUR: 'it returns false'. Refute it at one input. -/
def imageFlowsWrong : ChangeSpec := { name := "imageFlows", fn := fun _ => fun
  | [d] => { results := [.lit (.bool false)], args := [d] }
  | _ => none }
def ImageFlowsWrongFalsely : Prop := imageFlowsRow.holds Try.pinned (OpenSpec.ofChange imageFlowsWrong)

/-- 'backreachlaw03.ImageEncodes': WHATEVER THE INPUT: true; the input reads as it did. -/
def imageEncodesSpec : ChangeSpec := { name := "imageEncodes", fn := fun _ => fun
  | [d] => { results := [.lit (.bool true)], args := [d] }
  | _ => none }
def imageEncodesRow : OpenClaim := { program := "ythfgakbigpnkhaa", sum := "54a13892a3381031ef0da52f1b21bedc51a265ad40822e9623108c41fc303891", func := "backreach/backreachlaw03.ImageEncodes", spec := "imageEncodes", unfollowed := true, recurses := true, apart := false }
def ImageEncodesSaid : Prop := imageEncodesRow.holds Try.pinned (OpenSpec.ofChange imageEncodesSpec)

/-- ITS FALSE NEIGHBOUR: 'it returns false'. Refute it at one input. -/
def imageEncodesWrong : ChangeSpec := { name := "imageEncodes", fn := fun _ => fun
  | [d] => { results := [.lit (.bool false)], args := [d] }
  | _ => none }
def ImageEncodesWrongFalsely : Prop := imageEncodesRow.holds Try.pinned (OpenSpec.ofChange imageEncodesWrong)

/-- 'backreachlaw03.ImageSame': WHATEVER THE INPUT: true; the input reads as it did. -/
def imageSameSpec : ChangeSpec := { name := "imageSame", fn := fun _ => fun
  | [d1, d2] => { results := [.lit (.bool true)], args := [d1, d2] }
  | _ => none }
def imageSameRow : OpenClaim := { program := "ythfgakbigpnkhaa", sum := "54a13892a3381031ef0da52f1b21bedc51a265ad40822e9623108c41fc303891", func := "backreach/backreachlaw03.ImageSame", spec := "imageSame", unfollowed := true, recurses := true, apart := false }
def ImageSameSaid : Prop := imageSameRow.holds Try.pinned (OpenSpec.ofChange imageSameSpec)

/-- ITS FALSE NEIGHBOUR: 'it returns false'. Refute it at one input. -/
def imageSameWrong : ChangeSpec := { name := "imageSame", fn := fun _ => fun
  | [d1, d2] => { results := [.lit (.bool false)], args := [d1, d2] }
  | _ => none }
def ImageSameWrongFalsely : Prop := imageSameRow.holds Try.pinned (OpenSpec.ofChange imageSameWrong)

/- THE SECOND FORM. 'bulk': how many values and letters a reading holds, each counted each time it is reached (what is shared counts as often as it is met; a slice's spare places count too). A statement '..UptoSaid' is the law's where the arguments, and the package variables that the reading takes, are together of bulk at most 1048576: NARROWER than '..Said'. Prove '..Said' where nothing that the law and all that it calls make is longer than what came in: it says more and counts as full. Else prove '..UptoSaid'. A law counts once. -/
mutual
def uptoBulk {H : Type} : DataW H → Nat
  | .lit (.string bytes) => bytes.length + 1
  | .lit _ => 1
  | .nil => 1
  | .ptr d => uptoBulk d + 1
  | .slice elems spare => uptoBulkAll elems + uptoBulkAll spare + 1
  | .agg parts => uptoBulkAll parts + 1
  | .iface _ d => uptoBulk d + 1
  | .map entries => uptoBulkEntries entries + 1
  | .held _ => 1
def uptoBulkAll {H : Type} : List (DataW H) → Nat
  | [] => 0
  | d :: r => uptoBulk d + uptoBulkAll r
def uptoBulkEntries {H : Type} : List (Lit × DataW H) → Nat
  | [] => 0
  | x :: r => uptoBulkEntry x + uptoBulkEntries r
def uptoBulkEntry {H : Type} : Lit × DataW H → Nat
  | (.string bytes, d) => bytes.length + uptoBulk d + 1
  | (_, d) => uptoBulk d + 1
 end
def uptoSmall : (H : Type) → List (DataW H) → Bool := fun _ ds => decide (uptoBulkAll ds ≤ 1048576)
def OpenSpec.upto (s : _root_.Go.ChangeSpec) : _root_.Go.OpenSpec := { _root_.Go.OpenSpec.ofChange s with cond := some uptoSmall }

/-- 'backreachlaw03.ImageDecodes', WHERE WHAT IT READS IS OF BULK AT MOST 1048576: true; the input reads as it did. -/
def imageDecodesUptoRow : OpenClaim := { program := "ythfgakbigpnkhaa", sum := "54a13892a3381031ef0da52f1b21bedc51a265ad40822e9623108c41fc303891", func := "backreach/backreachlaw03.ImageDecodes", spec := "imageDecodes", unfollowed := true, recurses := true, apart := false, narrowed := true }
def ImageDecodesUptoSaid : Prop := imageDecodesUptoRow.holds Try.pinned (OpenSpec.upto imageDecodesSpec)

/-- 'backreachlaw03.ImageCuts', WHERE WHAT IT READS IS OF BULK AT MOST 1048576: true; the input reads as it did. -/
def imageCutsUptoRow : OpenClaim := { program := "ythfgakbigpnkhaa", sum := "54a13892a3381031ef0da52f1b21bedc51a265ad40822e9623108c41fc303891", func := "backreach/backreachlaw03.ImageCuts", spec := "imageCuts", unfollowed := true, recurses := true, apart := false, narrowed := true }
def ImageCutsUptoSaid : Prop := imageCutsUptoRow.holds Try.pinned (OpenSpec.upto imageCutsSpec)

/-- 'backreachlaw03.ImageFaults', WHERE WHAT IT READS IS OF BULK AT MOST 1048576: true; the input reads as it did. -/
def imageFaultsUptoRow : OpenClaim := { program := "ythfgakbigpnkhaa", sum := "54a13892a3381031ef0da52f1b21bedc51a265ad40822e9623108c41fc303891", func := "backreach/backreachlaw03.ImageFaults", spec := "imageFaults", unfollowed := true, recurses := true, apart := false, narrowed := true }
def ImageFaultsUptoSaid : Prop := imageFaultsUptoRow.holds Try.pinned (OpenSpec.upto imageFaultsSpec)

/-- 'backreachlaw03.ImageFlows', WHERE WHAT IT READS IS OF BULK AT MOST 1048576: true; the input reads as it did. -/
def imageFlowsUptoRow : OpenClaim := { program := "ythfgakbigpnkhaa", sum := "54a13892a3381031ef0da52f1b21bedc51a265ad40822e9623108c41fc303891", func := "backreach/backreachlaw03.ImageFlows", spec := "imageFlows", unfollowed := true, recurses := true, apart := false, narrowed := true }
def ImageFlowsUptoSaid : Prop := imageFlowsUptoRow.holds Try.pinned (OpenSpec.upto imageFlowsSpec)

/-- 'backreachlaw03.ImageEncodes', WHERE WHAT IT READS IS OF BULK AT MOST 1048576: true; the input reads as it did. -/
def imageEncodesUptoRow : OpenClaim := { program := "ythfgakbigpnkhaa", sum := "54a13892a3381031ef0da52f1b21bedc51a265ad40822e9623108c41fc303891", func := "backreach/backreachlaw03.ImageEncodes", spec := "imageEncodes", unfollowed := true, recurses := true, apart := false, narrowed := true }
def ImageEncodesUptoSaid : Prop := imageEncodesUptoRow.holds Try.pinned (OpenSpec.upto imageEncodesSpec)

/-- 'backreachlaw03.ImageSame', WHERE WHAT IT READS IS OF BULK AT MOST 1048576: true; the input reads as it did. -/
def imageSameUptoRow : OpenClaim := { program := "ythfgakbigpnkhaa", sum := "54a13892a3381031ef0da52f1b21bedc51a265ad40822e9623108c41fc303891", func := "backreach/backreachlaw03.ImageSame", spec := "imageSame", unfollowed := true, recurses := true, apart := false, narrowed := true }
def ImageSameUptoSaid : Prop := imageSameUptoRow.holds Try.pinned (OpenSpec.upto imageSameSpec)

end Rows
end Go.Proofs.Ythfgakbigpnkhaa
