/- The row of the law SketchTells: for every input it returns true, and its arguments read as before; no condition. -/
import Derived.Test.YtdfifogicefkjaaGreatDoorRows
import Derived.Test.YtdfifogicefkjaaGreatDoorCards
import Derived.Test.YtdfifogicefkjaaGreatDoorTie
import Derived.Handed
import Derived.SevenTiedAt
import Derived.Test.YtdfifogicefkjaaGreatDoorT
import Derived.WalkKit
import Derived.ProofKit
import Derived.OpenShut
import Derived.ShutString
import Derived.ChangeOld
import Derived.Below
import Derived.SizedLaws
import Derived.Carry
namespace Go.Proofs.YtdfifogicefkjaaGreatDoor.sketchTells
open Go.ChangeShapes Go.WideShapes Go.ChangeAt Go.RowKit Go.Proofs.YtdfifogicefkjaaGreatDoor.Sx Go.Proofs.YtdfifogicefkjaaGreatDoor.Sx.M5
set_option linter.unusedVariables false
theorem own : ownKnob Tryz.prog.godebug = none := by kernel_rfl
theorem laidOut : laidOutB Tryz.prog = true := by kernel_rfl
set_option maxRecDepth 100000 in
theorem lifted (os : Os) (started : os.Started) (H : Type) (enc : TypeId × Value → H) :
    ReturnsInHanded {} Tryz.checked os 3 .any (fun w args => (Rows.sketchTellsSpec.pre enc Tryz.prog Tryz.f3 Rows.sketchTellsRow.domain false w args ∧ laidMetH Tryz.prog Rows.sketchTellsRow.laid w) ∧ sizedMet enc Tryz.prog Tryz.f3 (OpenSpec.ofChange Rows.sketchTellsSpec) false w args) (Rows.sketchTellsSpec.post enc Tryz.prog Tryz.f3 false true false false) := by
  refine returnsInHanded_of_change_and (C := Tryz.checked) (X := fun w _ => laidMetH Tryz.prog Rows.sketchTellsRow.laid w) (fun _ _ _ hh h => h.of_heap hh) own started (by kernel_rfl) Tryz.func3
    (ChangeSpec.witness_at (enc := enc) (C := Tryz.checked) (os := os) (X := fun w _ => laidMetH Tryz.prog Rows.sketchTellsRow.laid w) false (laidWorld os) #[.slice none 0 0] 8 rfl (by kernel_rfl) (by kernel_rfl) (by kernel_rfl) (by kernel_rfl) (by kernel_rfl) (laid_met os _)) ?_
  intro W base args ds gs before hval0 hW hcnd hsz0 hL _
  have hval : ∀ (j : Nat) t v, Tryz.f3.params[j]? = some t → args[j]? = some v → Value.okWide Tryz.prog W .any base t v := hval0
  have hW' := hW
  obtain ⟨p, q, hA0, hV, rfl, hfz, hnd⟩ := hW
  have hA : DataW.TrodAll enc Tryz.prog W 0 (fun _ => true) true Tryz.f3.params.toList args.toList ds p := hA0
  rw [Tryz.params3] at hA hval
  obtain ⟨v0, vs0, d0, ds0, p0, q0, hargs, rfl, rfl, h0, r0⟩ := trodAll_cons hA
  obtain ⟨rfl, rfl, rfl⟩ := trodAll_nil r0
  obtain rfl : args = #[v0] := by cases args; simp_all
  obtain ⟨rfl, rfl⟩ := trodVars_none hV
  have k0 := h0
  have lt0 : ∀ x ∈ p0, x.block < W.heap.size := by obtain ⟨m, hm⟩ := k0; exact DataW.trod_lt m _ _ _ hm
  obtain ⟨A0, len0, cap0, rfl⟩ := okWide_slice Tryz.underlying22 (hval 0 22 v0 rfl rfl)
  obtain ⟨l0, b0, r0_⟩ := open_nodes h0
  clear hA0 hval0 hsz0
  have ok := lSke_true l0 b0
  refine (ok.below (.cons (r0_ default) .nil) (tab_of_laid hL)).mono ?_
  rintro e W' ⟨rfl, bel⟩
  exact ⟨_, rfl, _, _, _, [], _, [], hW', trodAll_mk1 (shut_bool Tryz.underlying4 _), (trodAll_cons_mk (Below.trod laidOut (by kernel_rfl) (of_decide_eq_true (by kernel_rfl)) k0 bel lt0) trodAll_mk0), rfl, bel.frame _, fun h => by cases h⟩
theorem over : Rows.sketchTellsRow.holds Tryz.pinned (OpenSpec.ofChange Rows.sketchTellsSpec) :=
  OpenClaim.holds_of_wide 3 Tryz.f3 rfl rfl rfl rfl rfl rfl rfl ⟨rfl, rfl, rfl, rfl, rfl⟩ rfl rfl rfl rfl rfl (by kernel_rfl) Tryz.func3 (by kernel_rfl)
    (of_decide_eq_true (by kernel_rfl)) (by unfold Func.isWrapper; first | (rw [if_pos (by decide +kernel)]; kernel_rfl) | (rw [if_neg (by decide +kernel)]; exact ⟨rfl, rfl⟩))
    (fun os started H enc _ => lifted os started H enc)
theorem proved : Rows.SketchTellsSaid := over
#print axioms proved
end Go.Proofs.YtdfifogicefkjaaGreatDoor.sketchTells
namespace Go.Proofs.YtdfifogicefkjaaGreatDoor
/-- The row, under a short name, for the claim. -/
theorem sketchTells_holds : Rows.SketchTellsSaid := sketchTells.proved
end Go.Proofs.YtdfifogicefkjaaGreatDoor
namespace Go.Proofs.YtdfifogicefkjaaGreatDoor
/-- The tied card. -/
theorem sketchTells_card : Rows.SketchTellsCardSaid :=
  Claim7.holds_tied_plain_at .later [] [.data] true (true, "5206fa3c27dd3b2e0573967c4e4ce470eb925af7be3c13beb39689e8452e7f41") false
    sketchTells.proved (fun _ h => by cases h) (by kernel_rfl) (fun _ h => by cases h) sketchTells_row_tie rfl ⟨rfl, rfl⟩ (by kernel_rfl) rfl
    (fun f fn hf hfn => by
      obtain rfl : f = 3 := Option.some.inj ((show Tryz.prog.funcNamed "backreach/backreachlaw13.SketchTells" = some 3 by kernel_rfl).symm.trans hf) |>.symm
      obtain rfl : fn = Tryz.f3 := (Option.some.inj (Tryz.func3.symm.trans hfn)).symm
      exact ⟨by kernel_rfl, fun j t ht => by
        rw [Tryz.params3] at ht
        have hm : t ∈ (#[22] : Array TypeId) := Array.mem_of_getElem? ht
        have hall : ∀ t ∈ (#[22] : Array TypeId), Tryz.prog.wantsStandIn t = false := by
          intro t ht
          simp only [List.mem_toArray, List.mem_cons, List.not_mem_nil, or_false] at ht
          rcases ht with rfl <;> kernel_rfl
        exact hall t hm⟩)
    (by kernel_rfl)
end Go.Proofs.YtdfifogicefkjaaGreatDoor
