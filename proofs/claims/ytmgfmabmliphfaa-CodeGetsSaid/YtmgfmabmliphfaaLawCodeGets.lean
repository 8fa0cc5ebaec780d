/- The row of the law CodeGets: for every input it returns true, and its arguments read as before; no condition. -/
import Derived.Test.YtmgfmabmliphfaaRows
import Derived.Test.YtmgfmabmliphfaaPureCodeGets
import Derived.Test.YtmgfmabmliphfaaOpen
import Derived.WalkKit
import Derived.ProofKit
import Derived.OpenShut
import Derived.ShutString
import Derived.ChangeOld
import Derived.Below
import Derived.SizedLaws
import Derived.Carry
namespace Go.Proofs.Ytmgfmabmliphfaa.codeGets
open Go.ChangeShapes Go.WideShapes Go.ChangeAt Go.RowKit Go.Proofs.Ytmgfmabmliphfaa.P Go.Proofs.YtmgfmabmliphfaaW.PrintWords
open Go.ChangeMaps (open_string shut_string)
set_option linter.unusedVariables false
theorem own : ownKnob Try.prog.godebug = none := by kernel_rfl
theorem laidOut : laidOutB Try.prog = true := by kernel_rfl
set_option maxRecDepth 100000 in
theorem lifted (os : Os) (started : os.Started) (H : Type) (enc : TypeId × Value → H) :
    ReturnsInHanded {} Try.checked os 5 .any (Rows.codeGetsSpec.pre6 enc Try.prog Try.f5 Rows.codeGetsRow.domain false) (Rows.codeGetsSpec.post enc Try.prog Try.f5 false true false false) := by
  refine returnsInHanded_of_change_sized (C := Try.checked) own started (by kernel_rfl) Try.func5
    (ChangeSpec.witness6 (enc := enc) (C := Try.checked) false ⟨#[], #[.slice none 0 0], []⟩ 8 (by kernel_rfl) (by kernel_rfl) (by kernel_rfl) (by kernel_rfl)) ?_
  intro W base args ds gs before hval0 hW hcnd hsz0 _
  have hsz : (DataW.weightsEach Try.prog (Try.f5.params.toList ++ Rows.codeGetsSpec.plain.varTypes Try.prog) (ds ++ gs)).all (· ≤ reachBytes) = true := hsz0
  have hval : ∀ (j : Nat) t v, Try.f5.params[j]? = some t → args[j]? = some v → Value.okWide Try.prog W .any base t v := hval0
  have hW' := hW
  obtain ⟨p, q, hA0, hV, rfl, hfz, hnd⟩ := hW
  have hA : DataW.TrodAll enc Try.prog W 0 (fun _ => true) true Try.f5.params.toList args.toList ds p := hA0
  rw [Try.params5] at hA hval hsz
  obtain ⟨v0, vs0, d0, ds0, p0, q0, hargs, rfl, rfl, h0, r0⟩ := trodAll_cons hA
  obtain ⟨rfl, rfl, rfl⟩ := trodAll_nil r0
  obtain rfl : args = #[v0] := by cases args; simp_all
  obtain ⟨rfl, rfl⟩ := trodVars_none hV
  obtain ⟨A0, len0, cap0, rfl⟩ := okWide_slice Try.underlying31 (hval 0 31 v0 rfl rfl)
  have k0 := h0
  have lt0 : ∀ x ∈ p0, x.block < W.heap.size := by obtain ⟨m, hm⟩ := k0; exact DataW.trod_lt m _ _ _ hm
  obtain ⟨rows0, hlen0, hc0, hm0, hy0, hw0, hr0⟩ := Open.open_row (n := 8) (B := 1) (ks := ([.u8] : List IntKind)) (j := 0) (Go.Proofs.YtmgfmabmliphfaaW.PrintWords.Kd.int .u8) (fun ns => ns.headD 0) Try.underlying31 (by kernel_rfl) (by kernel_rfl) rfl (fun _ ns hn => by match ns, hn with | [_], _ => exact rfl) hsz rfl rfl (by kernel_rfl) h0
  obtain ⟨l0, hl0⟩ : ∃ l, l = rows0.map (fun ns => ns.headD 0) := ⟨_, rfl⟩
  have hll0 : l0.length = len0 := by rw [hl0, List.length_map, hlen0]
  rw [← hl0] at hr0
  subst hll0
  have m0 : l0.length ≤ maxLen := hm0
  have y0 : l0.length * 1 ≤ 140737488351232 := hy0
  have w0 : (∀ x ∈ l0, (Lit.int .u8 x).wf = true) := by
    intro x hx
    rw [hl0] at hx
    obtain ⟨ns, hns, rfl⟩ := List.mem_map.1 hx
    obtain ⟨hn, hww⟩ := hw0 ns hns
    match ns, hn, hww with
    | [x0], _, hww => exact hww.1
  clear hA0 hval0 hsz0 hsz
  obtain ⟨k, hk⟩ := Pure.CodeGets_row l0 m0 y0 w0
  refine (backreachlaw02_CodeGets.calls k _ _ l0 true W hr0 hc0 hk).mono ?_
  rintro e W' ⟨rfl, bel⟩
  exact ⟨_, rfl, _, _, _, [], _, [], hW', trodAll_mk1 (shut_bool Try.underlying4 _), (trodAll_cons_mk (Below.trod laidOut (by kernel_rfl) (of_decide_eq_true (by kernel_rfl)) k0 bel lt0) trodAll_mk0), rfl, bel.frame _, fun h => by cases h⟩
theorem over : Rows.codeGetsRow.holds Try.pinned (OpenSpec.ofChange Rows.codeGetsSpec) :=
  OpenClaim.holds_of_wide 5 Try.f5 rfl rfl rfl rfl rfl rfl rfl ⟨rfl, rfl, rfl, rfl, rfl⟩ rfl rfl rfl rfl rfl (by kernel_rfl) Try.func5 (by kernel_rfl)
    (of_decide_eq_true (by kernel_rfl)) (by unfold Func.isWrapper; first | (rw [if_pos (by decide +kernel)]; kernel_rfl) | (rw [if_neg (by decide +kernel)]; exact ⟨rfl, rfl⟩))
    (fun os started H enc _ => lifted os started H enc)
theorem proved : Rows.CodeGetsSaid := over
#print axioms proved
end Go.Proofs.Ytmgfmabmliphfaa.codeGets
namespace Go.Proofs.Ytmgfmabmliphfaa
/-- The row, under a short name, for the claim. -/
theorem codeGets_holds : Rows.CodeGetsSaid := codeGets.proved
end Go.Proofs.Ytmgfmabmliphfaa
