/-
  No cell of these rows narrows 'for every input' (looked for: loops, veiled, ifaces, maps, wideKeys, modest, calm, conditions, laid).
  DERIVED. THE GIVEN ROWS OF THIS SEAT. 4 by the template 'for every input the law returns true; each argument reads behind the call as it read before'; 0 by the template 'total and deterministic' (their statements: YteolbecihipcaaaTotals.lean).
  GIVEN WITH THE SEED: the statements are not yours to turn. If you find one false, say at which input.
  Laid BY PROGRAM, IN A SANDBOX (cutbox-rows.mjs): the forced cells as the released guide's own fill.sh prints them over the translation c3bf703bf57c9e85… (all of the seat's roots in one cut). By AI agents, Wed Nov 11 2026. No macro, syntax, notation, axiom, sorry.
-/
import Derived.Test.YteolbecihipcaaaChecked
import GoSem.Claim
import GoSem.ClaimJoined
import GoSem.ClaimMapViews
import Derived.JoinedTies
import Derived.KernelRfl
namespace Go.Proofs.Yteolbecihipcaaa
/- THE CELL 'sum', in the pinned program and in every row, IS THE sha256 OF THE DUMP (.gsa) THAT YteolbecihipcaaaProg.lean LOADS. Nothing in Lean hashes anything: it is a label: what it is worth is what the hold of that sum in a sandbox is worth. -/
noncomputable def Try.pinned : Pinned := { name := "yteolbecihipcaaa", sum := "c3bf703bf57c9e85ffd7a88f73eee01947c410302fa2d1437cea737813ee71f1", checked := Try.checked }
namespace Rows
def none {H : Type} : Left H := { results := [], args := [] }

/-- 'backreachlaw05.MachineReach': WHATEVER THE INPUT: true; the input reads as it did. -/
def machineReachSpec : ChangeSpec := { name := "machineReach", fn := fun _ => fun
  | [d1, d2, d3, d4, d5] => { results := [.lit (.bool true)], args := [d1, d2, d3, d4, d5] }
  | _ => none }
def machineReachRow : OpenClaim := { program := "yteolbecihipcaaa", sum := "c3bf703bf57c9e85ffd7a88f73eee01947c410302fa2d1437cea737813ee71f1", func := "backreach/backreachlaw05.MachineReach", spec := "machineReach", unfollowed := true, recurses := true, apart := false }
def MachineReachSaid : Prop := machineReachRow.holds Try.pinned (OpenSpec.ofChange machineReachSpec)

/-- ITS FALSE NEIGHBOUR: 'it returns false'. Refute it at one input. -/
def machineReachWrong : ChangeSpec := { name := "machineReach", fn := fun _ => fun
  | [d1, d2, d3, d4, d5] => { results := [.lit (.bool false)], args := [d1, d2, d3, d4, d5] }
  | _ => none }
def MachineReachWrongFalsely : Prop := machineReachRow.holds Try.pinned (OpenSpec.ofChange machineReachWrong)

/-- 'backreachlaw05.MachineSaves': WHATEVER THE INPUT: true; the input reads as it did. -/
def machineSavesSpec : ChangeSpec := { name := "machineSaves", fn := fun _ => fun
  | [d1, d2, d3, d4] => { results := [.lit (.bool true)], args := [d1, d2, d3, d4] }
  | _ => none }
def machineSavesRow : OpenClaim := { program := "yteolbecihipcaaa", sum := "c3bf703bf57c9e85ffd7a88f73eee01947c410302fa2d1437cea737813ee71f1", func := "backreach/backreachlaw05.MachineSaves", spec := "machineSaves", unfollowed := true, recurses := true, apart := false }
def MachineSavesSaid : Prop := machineSavesRow.holds Try.pinned (OpenSpec.ofChange machineSavesSpec)

/-- ITS FALSE NEIGHBOUR: 'it returns false'. Refute it at one input. -/
def machineSavesWrong : ChangeSpec := { name := "machineSaves", fn := fun _ => fun
  | [d1, d2, d3, d4] => { results := [.lit (.bool false)], args := [d1, d2, d3, d4] }
  | _ => none }
def MachineSavesWrongFalsely : Prop := machineSavesRow.holds Try.pinned (OpenSpec.ofChange machineSavesWrong)

/-- 'backreachlaw05.MachineSteps': WHATEVER THE INPUT: true; the input reads as it did. -/
def machineStepsSpec : ChangeSpec := { name := "machineSteps", fn := fun _ => fun
  | [d1, d2, d3] => { results := [.lit (.bool true)], args := [d1, d2, d3] }
  | _ => none }
def machineStepsRow : OpenClaim := { program := "yteolbecihipcaaa", sum := "c3bf703bf57c9e85ffd7a88f73eee01947c410302fa2d1437cea737813ee71f1", func := "backreach/backreachlaw05.MachineSteps", spec := "machineSteps", unfollowed := true, recurses := true, apart := false }
def MachineStepsSaid : Prop := machineStepsRow.holds Try.pinned (OpenSpec.ofChange machineStepsSpec)

/-- ITS FALSE NEIGHBOUR: 'it returns false'. Refute it at one input. -/
def machineStepsWrong : ChangeSpec := { name := "machineSteps", fn := fun _ => fun
  | [d1, d2, d3] => { results := [.lit (.bool false)], args := [d1, d2, d3] }
  | _ => none }
def MachineStepsWrongFalsely : Prop := machineStepsRow.holds Try.pinned (OpenSpec.ofChange machineStepsWrong)

/-- 'backreachlaw05.MachineCalls': WHATEVER THE INPUT: true; the input reads as it did. -/
def machineCallsSpec : ChangeSpec := { name := "machineCalls", fn := fun _ => fun
  | [d1, d2, d3] => { results := [.lit (.bool true)], args := [d1, d2, d3] }
  | _ => none }
def machineCallsRow : OpenClaim := { program := "yteolbecihipcaaa", sum := "c3bf703bf57c9e85ffd7a88f73eee01947c410302fa2d1437cea737813ee71f1", func := "backreach/backreachlaw05.MachineCalls", spec := "machineCalls", unfollowed := true, recurses := true, apart := false }
def MachineCallsSaid : Prop := machineCallsRow.holds Try.pinned (OpenSpec.ofChange machineCallsSpec)

/-- ITS FALSE NEIGHBOUR: 'it returns false'. Refute it at one input. -/
def machineCallsWrong : ChangeSpec := { name := "machineCalls", fn := fun _ => fun
  | [d1, d2, d3] => { results := [.lit (.bool false)], args := [d1, d2, d3] }
  | _ => none }
def MachineCallsWrongFalsely : Prop := machineCallsRow.holds Try.pinned (OpenSpec.ofChange machineCallsWrong)

/- THE SECOND FORM. 'bulk': how many values and letters a reading holds, each counted each time it is reached (what is shared counts as often as it is met; a slice's spare places count too). A statement '..UptoSaid' is the law's where the arguments, and the package variables that the reading takes, are together of bulk at most 1048576: NARROWER than '..Said'. Prove '..Said' where nothing that the law and all that it calls make is longer than what came in: it says more and counts as full. Else prove '..UptoSaid'. A law counts once. -/
mutual
def uptoBulk {H : Type} : DataW H → Nat
  | .lit (.string bytes) => bytes.length + 1
  | .lit _ => 1
  | .nil => 1
  | .ptr d => uptoBulk d + 1
  | .slice elems spare => uptoBulkAll elems + uptoBulkAll spare + 1
  | .agg parts => uptoBulkAll parts + 1
  | .iface _ d => uptoBulk d + 1
  | .map entries => uptoBulkEntries entries + 1
  | .held _ => 1
def uptoBulkAll {H : Type} : List (DataW H) → Nat
  | [] => 0
  | d :: r => uptoBulk d + uptoBulkAll r
def uptoBulkEntries {H : Type} : List (Lit × DataW H) → Nat
  | [] => 0
  | x :: r => uptoBulkEntry x + uptoBulkEntries r
def uptoBulkEntry {H : Type} : Lit × DataW H → Nat
  | (.string bytes, d) => bytes.length + uptoBulk d + 1
  | (_, d) => uptoBulk d + 1
 end
def uptoSmall : (H : Type) → List (DataW H) → Bool := fun _ ds => decide (uptoBulkAll ds ≤ 1048576)
def OpenSpec.upto (s : _root_.Go.ChangeSpec) : _root_.Go.OpenSpec := { _root_.Go.OpenSpec.ofChange s with cond := some uptoSmall }

/-- 'backreachlaw05.MachineReach', WHERE WHAT IT READS IS OF BULK AT MOST 1048576: true; the input reads as it did. -/
def machineReachUptoRow : OpenClaim := { program := "yteolbecihipcaaa", sum := "c3bf703bf57c9e85ffd7a88f73eee01947c410302fa2d1437cea737813ee71f1", func := "backreach/backreachlaw05.MachineReach", spec := "machineReach", unfollowed := true, recurses := true, apart := false, narrowed := true }
def MachineReachUptoSaid : Prop := machineReachUptoRow.holds Try.pinned (OpenSpec.upto machineReachSpec)

/-- 'backreachlaw05.MachineSaves', WHERE WHAT IT READS IS OF BULK AT MOST 1048576: true; the input reads as it did. -/
def machineSavesUptoRow : OpenClaim := { program := "yteolbecihipcaaa", sum := "c3bf703bf57c9e85ffd7a88f73eee01947c410302fa2d1437cea737813ee71f1", func := "backreach/backreachlaw05.MachineSaves", spec := "machineSaves", unfollowed := true, recurses := true, apart := false, narrowed := true }
def MachineSavesUptoSaid : Prop := machineSavesUptoRow.holds Try.pinned (OpenSpec.upto machineSavesSpec)

/-- 'backreachlaw05.MachineSteps', WHERE WHAT IT READS IS OF BULK AT MOST 1048576: true; the input reads as it did. -/
def machineStepsUptoRow : OpenClaim := { program := "yteolbecihipcaaa", sum := "c3bf703bf57c9e85ffd7a88f73eee01947c410302fa2d1437cea737813ee71f1", func := "backreach/backreachlaw05.MachineSteps", spec := "machineSteps", unfollowed := true, recurses := true, apart := false, narrowed := true }
def MachineStepsUptoSaid : Prop := machineStepsUptoRow.holds Try.pinned (OpenSpec.upto machineStepsSpec)

/-- 'backreachlaw05.MachineCalls', WHERE WHAT IT READS IS OF BULK AT MOST 1048576: true; the input reads as it did. -/
def machineCallsUptoRow : OpenClaim := { program := "yteolbecihipcaaa", sum := "c3bf703bf57c9e85ffd7a88f73eee01947c410302fa2d1437cea737813ee71f1", func := "backreach/backreachlaw05.MachineCalls", spec := "machineCalls", unfollowed := true, recurses := true, apart := false, narrowed := true }
def MachineCallsUptoSaid : Prop := machineCallsUptoRow.holds Try.pinned (OpenSpec.upto machineCallsSpec)

end Rows
end Go.Proofs.Yteolbecihipcaaa
