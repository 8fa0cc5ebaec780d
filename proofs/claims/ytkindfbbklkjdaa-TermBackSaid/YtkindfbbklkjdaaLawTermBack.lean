/- The row of the law TermBack: for every input it returns true, and its arguments read as before; no condition. -/
import Derived.Test.YtkindfbbklkjdaaRows
import Derived.Test.YtkindfbbklkjdaaPureBack
import Derived.Test.YtkindfbbklkjdaaOpen
import Derived.WalkKit
import Derived.ProofKit
import Derived.OpenShut
import Derived.ShutString
import Derived.ChangeOld
import Derived.Below
import Derived.SizedLaws
import Derived.Carry
namespace Go.Proofs.Ytkindfbbklkjdaa.termBack
open Go.ChangeShapes Go.WideShapes Go.ChangeAt Go.RowKit Go.Proofs.Ytkindfbbklkjdaa.P Go.Proofs.YtkindfbbklkjdaaW.PrintWords
open Go.ChangeMaps (open_string shut_string)
set_option linter.unusedVariables false
theorem own : ownKnob Try.prog.godebug = none := by kernel_rfl
theorem laidOut : laidOutB Try.prog = true := by kernel_rfl
theorem ex6 {l : List Int} (h : l.length = 6) : ∃ x0 x1 x2 x3 x4 x5 : Int, l = [x0, x1, x2, x3, x4, x5] := by
  match l, h with
  | [x0, x1, x2, x3, x4, x5], _ => exact ⟨x0, x1, x2, x3, x4, x5, rfl⟩
set_option maxRecDepth 100000 in
theorem lifted (os : Os) (started : os.Started) (H : Type) (enc : TypeId × Value → H) :
    ReturnsInHanded {} Try.checked os 7 .any (Rows.termBackSpec.pre6 enc Try.prog Try.f7 Rows.termBackRow.domain false) (Rows.termBackSpec.post enc Try.prog Try.f7 false true false false) := by
  refine returnsInHanded_of_change_sized (C := Try.checked) own started (by kernel_rfl) Try.func7
    (ChangeSpec.witness6 (enc := enc) (C := Try.checked) false ⟨#[], #[.slice none 0 0], []⟩ 8 (by kernel_rfl) (by kernel_rfl) (by kernel_rfl) (by kernel_rfl)) ?_
  intro W base args ds gs before hval0 hW hcnd hsz0 _
  have hsz : (DataW.weightsEach Try.prog (Try.f7.params.toList ++ Rows.termBackSpec.plain.varTypes Try.prog) (ds ++ gs)).all (· ≤ reachBytes) = true := hsz0
  have hval : ∀ (j : Nat) t v, Try.f7.params[j]? = some t → args[j]? = some v → Value.okWide Try.prog W .any base t v := hval0
  have hW' := hW
  obtain ⟨p, q, hA0, hV, rfl, hfz, hnd⟩ := hW
  have hA : DataW.TrodAll enc Try.prog W 0 (fun _ => true) true Try.f7.params.toList args.toList ds p := hA0
  rw [Try.params7] at hA hval hsz
  obtain ⟨v0, vs0, d0, ds0, p0, q0, hargs, rfl, rfl, h0, r0⟩ := trodAll_cons hA
  obtain ⟨rfl, rfl, rfl⟩ := trodAll_nil r0
  obtain rfl : args = #[v0] := by cases args; simp_all
  obtain ⟨rfl, rfl⟩ := trodVars_none hV
  obtain ⟨A0, len0, cap0, rfl⟩ := okWide_slice Try.underlying22 (hval 0 22 v0 rfl rfl)
  have k0 := h0
  have lt0 : ∀ x ∈ p0, x.block < W.heap.size := by obtain ⟨m, hm⟩ := k0; exact DataW.trod_lt m _ _ _ hm
  obtain ⟨rows0, hlen0, hc0, hm0, hy0, hw0, hr0⟩ := Open.open_row (n := 8) (B := 48) (ks := ([.i64, .i64, .u64, .i64, .i64, .i64] : List IntKind)) (j := 0) k32 (fun ns : List Int => (match ns with | [x0, x1, x2, x3, x4, x5] => (⟨x0, x1, x2, ⟨x3, x4, x5⟩⟩ : S32) | _ => z32)) Try.underlying22 (by kernel_rfl) (by kernel_rfl) rfl (fun w ns hn => by match ns, hn with | [x0, x1, x2, x3, x4, x5], _ => exact k32_mk w _) hsz rfl rfl (by kernel_rfl) h0
  obtain ⟨l0, hl0⟩ : ∃ l, l = rows0.map (fun ns : List Int => (match ns with | [x0, x1, x2, x3, x4, x5] => (⟨x0, x1, x2, ⟨x3, x4, x5⟩⟩ : S32) | _ => z32)) := ⟨_, rfl⟩
  have hll0 : l0.length = len0 := by rw [hl0, List.length_map, hlen0]
  rw [← hl0] at hr0
  subst hll0
  have m0 : l0.length ≤ maxLen := hm0
  have y0 : l0.length * 48 ≤ 140737488351232 := hy0
  have w0 : (∀ x ∈ l0, (Lit.int .i64 x.f0).wf = true ∧ (Lit.int .i64 x.f1).wf = true ∧ (Lit.int .u64 x.f2).wf = true ∧ (Lit.int .i64 x.f3.f0).wf = true ∧ (Lit.int .i64 x.f3.f1).wf = true ∧ (Lit.int .i64 x.f3.f2).wf = true) := by
    intro x hx
    rw [hl0] at hx
    obtain ⟨ns, hns, rfl⟩ := List.mem_map.1 hx
    obtain ⟨hn, hww⟩ := hw0 ns hns
    obtain ⟨x0, x1, x2, x3, x4, x5, rfl⟩ := ex6 hn
    exact ⟨hww.1, hww.2.1, hww.2.2.1, hww.2.2.2.1, hww.2.2.2.2.1, hww.2.2.2.2.2.1⟩
  clear hA0 hval0 hsz0 hsz
  obtain ⟨k, hk⟩ := Pure.TermBack_row l0 m0 y0 w0
  refine (backreachlaw06_TermBack.calls k _ _ l0 true W hr0 hc0 hk).mono ?_
  rintro e W' ⟨rfl, bel⟩
  exact ⟨_, rfl, _, _, _, [], _, [], hW', trodAll_mk1 (shut_bool Try.underlying4 _), (trodAll_cons_mk (Below.trod laidOut (by kernel_rfl) (of_decide_eq_true (by kernel_rfl)) k0 bel lt0) trodAll_mk0), rfl, bel.frame _, fun h => by cases h⟩
theorem over : Rows.termBackRow.holds Try.pinned (OpenSpec.ofChange Rows.termBackSpec) :=
  OpenClaim.holds_of_wide 7 Try.f7 rfl rfl rfl rfl rfl rfl rfl ⟨rfl, rfl, rfl, rfl, rfl⟩ rfl rfl rfl rfl rfl (by kernel_rfl) Try.func7 (by kernel_rfl)
    (of_decide_eq_true (by kernel_rfl)) (by unfold Func.isWrapper; first | (rw [if_pos (by decide +kernel)]; kernel_rfl) | (rw [if_neg (by decide +kernel)]; exact ⟨rfl, rfl⟩))
    (fun os started H enc _ => lifted os started H enc)
theorem proved : Rows.TermBackSaid := over
#print axioms proved
end Go.Proofs.Ytkindfbbklkjdaa.termBack
namespace Go.Proofs.Ytkindfbbklkjdaa
/-- The row, under a short name, for the claim. -/
theorem termBack_holds : Rows.TermBackSaid := termBack.proved
end Go.Proofs.Ytkindfbbklkjdaa
