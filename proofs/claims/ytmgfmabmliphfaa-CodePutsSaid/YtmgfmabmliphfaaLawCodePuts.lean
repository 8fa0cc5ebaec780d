/- The row of the law CodePuts: for every input it returns true, and its arguments read as before; no condition. -/
import Derived.Test.YtmgfmabmliphfaaRows
import Derived.Test.YtmgfmabmliphfaaPureCodePuts
import Derived.Test.YtmgfmabmliphfaaOpen
import Derived.WalkKit
import Derived.ProofKit
import Derived.OpenShut
import Derived.ShutString
import Derived.ChangeOld
import Derived.Below
import Derived.SizedLaws
import Derived.Carry
namespace Go.Proofs.Ytmgfmabmliphfaa.codePuts
open Go.ChangeShapes Go.WideShapes Go.ChangeAt Go.RowKit Go.Proofs.Ytmgfmabmliphfaa.P Go.Proofs.YtmgfmabmliphfaaW.PrintWords
open Go.ChangeMaps (open_string shut_string)
set_option linter.unusedVariables false
theorem own : ownKnob Try.prog.godebug = none := by kernel_rfl
theorem laidOut : laidOutB Try.prog = true := by kernel_rfl
theorem ex1 {l : List Int} (h : l.length = 1) : ∃ x0 : Int, l = [x0] := by
  match l, h with
  | [x0], _ => exact ⟨x0, rfl⟩
theorem ex5 {l : List Int} (h : l.length = 5) : ∃ x0 x1 x2 x3 x4 : Int, l = [x0, x1, x2, x3, x4] := by
  match l, h with
  | [x0, x1, x2, x3, x4], _ => exact ⟨x0, x1, x2, x3, x4, rfl⟩
set_option maxRecDepth 100000 in
theorem lifted (os : Os) (started : os.Started) (H : Type) (enc : TypeId × Value → H) :
    ReturnsInHanded {} Try.checked os 4 .any (Rows.codePutsSpec.pre6 enc Try.prog Try.f4 Rows.codePutsRow.domain false) (Rows.codePutsSpec.post enc Try.prog Try.f4 false true false false) := by
  refine returnsInHanded_of_change_sized (C := Try.checked) own started (by kernel_rfl) Try.func4
    (ChangeSpec.witness6 (enc := enc) (C := Try.checked) false ⟨#[], #[.agg #[.int .i64 0, .int .i64 0, .int .i64 0, .int .i64 0, .int .u64 0], .slice none 0 0], []⟩ 8 (by kernel_rfl) (by kernel_rfl) (by kernel_rfl) (by kernel_rfl)) ?_
  intro W base args ds gs before hval0 hW hcnd hsz0 _
  have hsz : (DataW.weightsEach Try.prog (Try.f4.params.toList ++ Rows.codePutsSpec.plain.varTypes Try.prog) (ds ++ gs)).all (· ≤ reachBytes) = true := hsz0
  have hval : ∀ (j : Nat) t v, Try.f4.params[j]? = some t → args[j]? = some v → Value.okWide Try.prog W .any base t v := hval0
  have hW' := hW
  obtain ⟨p, q, hA0, hV, rfl, hfz, hnd⟩ := hW
  have hA : DataW.TrodAll enc Try.prog W 0 (fun _ => true) true Try.f4.params.toList args.toList ds p := hA0
  rw [Try.params4] at hA hval hsz
  obtain ⟨v0, vs0, d0, ds0, p0, q0, hargs, rfl, rfl, h0, r0⟩ := trodAll_cons hA
  obtain ⟨v1, vs1, d1, ds1, p1, q1, rfl, rfl, rfl, h1, r1⟩ := trodAll_cons r0
  obtain ⟨rfl, rfl, rfl⟩ := trodAll_nil r1
  obtain rfl : args = #[v0, v1] := by cases args; simp_all
  obtain ⟨rfl, rfl⟩ := trodVars_none hV
  have k0 := h0
  have lt0 : ∀ x ∈ p0, x.block < W.heap.size := by obtain ⟨m, hm⟩ := k0; exact DataW.trod_lt m _ _ _ hm
  obtain ⟨ns0, hn0, rfl, hw0⟩ := Open.open_val (n := 8) (ks := ([.i64, .i64, .i64, .i64, .u64] : List IntKind)) Try.underlying30 (by kernel_rfl) (hval 0 30 v0 rfl rfl) h0
  obtain ⟨a0_0, a0_1, a0_2, a0_3, a0_4, rfl⟩ := ex5 hn0
  obtain ⟨w0_0, w0_1, w0_2, w0_3, w0_4, _⟩ := hw0
  obtain ⟨A1, len1, cap1, rfl⟩ := okWide_slice Try.underlying31 (hval 1 31 v1 rfl rfl)
  have k1 := h1
  have lt1 : ∀ x ∈ p1, x.block < W.heap.size := by obtain ⟨m, hm⟩ := k1; exact DataW.trod_lt m _ _ _ hm
  obtain ⟨rows1, hlen1, hc1, hm1, hy1, hw1, hr1⟩ := Open.open_row (n := 8) (B := 1) (ks := ([.u8] : List IntKind)) (j := 1) (Go.Proofs.YtmgfmabmliphfaaW.PrintWords.Kd.int .u8) (fun ns => ns.headD 0) Try.underlying31 (by kernel_rfl) (by kernel_rfl) rfl (fun _ ns hn => by match ns, hn with | [_], _ => exact rfl) hsz rfl rfl (by kernel_rfl) h1
  obtain ⟨l1, hl1⟩ : ∃ l, l = rows1.map (fun ns => ns.headD 0) := ⟨_, rfl⟩
  have hll1 : l1.length = len1 := by rw [hl1, List.length_map, hlen1]
  rw [← hl1] at hr1
  subst hll1
  have m1 : l1.length ≤ maxLen := hm1
  have y1 : l1.length * 1 ≤ 140737488351232 := hy1
  have w1 : (∀ x ∈ l1, (Lit.int .u8 x).wf = true) := by
    intro x hx
    rw [hl1] at hx
    obtain ⟨ns, hns, rfl⟩ := List.mem_map.1 hx
    obtain ⟨hn, hww⟩ := hw1 ns hns
    obtain ⟨x0, rfl⟩ := ex1 hn
    exact hww.1
  clear hA0 hval0 hsz0 hsz
  obtain ⟨k, hk⟩ := Pure.CodePuts_row a0_0 a0_1 a0_2 a0_3 a0_4 l1 w0_0 w0_1 w0_2 w0_3 w0_4 m1 y1 w1
  refine (backreachlaw02_CodePuts.calls k a0_0 a0_1 a0_2 a0_3 a0_4 _ _ l1 true W hr1 hc1 hk).mono ?_
  rintro e W' ⟨rfl, bel⟩
  exact ⟨_, rfl, _, _, _, [], _, [], hW', trodAll_mk1 (shut_bool Try.underlying4 _), (trodAll_cons_mk (Below.trod laidOut (by kernel_rfl) (of_decide_eq_true (by kernel_rfl)) k0 bel lt0) (trodAll_cons_mk (Below.trod laidOut (by kernel_rfl) (of_decide_eq_true (by kernel_rfl)) k1 bel lt1) trodAll_mk0)), rfl, bel.frame _, fun h => by cases h⟩
theorem over : Rows.codePutsRow.holds Try.pinned (OpenSpec.ofChange Rows.codePutsSpec) :=
  OpenClaim.holds_of_wide 4 Try.f4 rfl rfl rfl rfl rfl rfl rfl ⟨rfl, rfl, rfl, rfl, rfl⟩ rfl rfl rfl rfl rfl (by kernel_rfl) Try.func4 (by kernel_rfl)
    (of_decide_eq_true (by kernel_rfl)) (by unfold Func.isWrapper; first | (rw [if_pos (by decide +kernel)]; kernel_rfl) | (rw [if_neg (by decide +kernel)]; exact ⟨rfl, rfl⟩))
    (fun os started H enc _ => lifted os started H enc)
theorem proved : Rows.CodePutsSaid := over
#print axioms proved
end Go.Proofs.Ytmgfmabmliphfaa.codePuts
namespace Go.Proofs.Ytmgfmabmliphfaa
/-- The row, under a short name, for the claim. -/
theorem codePuts_holds : Rows.CodePutsSaid := codePuts.proved
end Go.Proofs.Ytmgfmabmliphfaa
