/- The row of the law CodeApart: for every input it returns true, and its arguments read as before; no condition. -/
import Derived.Test.YtmgfmabmliphfaaRows
import Derived.Test.YtmgfmabmliphfaaPureCodeApart
import Derived.Test.YtmgfmabmliphfaaOpen
import Derived.WalkKit
import Derived.ProofKit
import Derived.OpenShut
import Derived.ShutString
import Derived.ChangeOld
import Derived.Below
import Derived.SizedLaws
import Derived.Carry
namespace Go.Proofs.Ytmgfmabmliphfaa.codeApart
open Go.ChangeShapes Go.WideShapes Go.ChangeAt Go.RowKit Go.Proofs.Ytmgfmabmliphfaa.P Go.Proofs.YtmgfmabmliphfaaW.PrintWords
open Go.ChangeMaps (open_string shut_string)
set_option linter.unusedVariables false
theorem own : ownKnob Try.prog.godebug = none := by kernel_rfl
theorem laidOut : laidOutB Try.prog = true := by kernel_rfl
theorem ex1 {l : List Int} (h : l.length = 1) : ∃ x0 : Int, l = [x0] := by
  match l, h with
  | [x0], _ => exact ⟨x0, rfl⟩
theorem ex5 {l : List Int} (h : l.length = 5) : ∃ x0 x1 x2 x3 x4 : Int, l = [x0, x1, x2, x3, x4] := by
  match l, h with
  | [x0, x1, x2, x3, x4], _ => exact ⟨x0, x1, x2, x3, x4, rfl⟩
set_option maxRecDepth 100000 in
theorem lifted (os : Os) (started : os.Started) (H : Type) (enc : TypeId × Value → H) :
    ReturnsInHanded {} Try.checked os 6 .any (Rows.codeApartSpec.pre6 enc Try.prog Try.f6 Rows.codeApartRow.domain false) (Rows.codeApartSpec.post enc Try.prog Try.f6 false true false false) := by
  refine returnsInHanded_of_change_sized (C := Try.checked) own started (by kernel_rfl) Try.func6
    (ChangeSpec.witness6 (enc := enc) (C := Try.checked) false ⟨#[], #[.agg #[.int .i64 0, .int .i64 0, .int .i64 0, .int .i64 0, .int .u64 0], .agg #[.int .i64 0, .int .i64 0, .int .i64 0, .int .i64 0, .int .u64 0], .slice none 0 0, .int .i64 0, .int .u8 0], []⟩ 8 (by kernel_rfl) (by kernel_rfl) (by kernel_rfl) (by kernel_rfl)) ?_
  intro W base args ds gs before hval0 hW hcnd hsz0 _
  have hsz : (DataW.weightsEach Try.prog (Try.f6.params.toList ++ Rows.codeApartSpec.plain.varTypes Try.prog) (ds ++ gs)).all (· ≤ reachBytes) = true := hsz0
  have hval : ∀ (j : Nat) t v, Try.f6.params[j]? = some t → args[j]? = some v → Value.okWide Try.prog W .any base t v := hval0
  have hW' := hW
  obtain ⟨p, q, hA0, hV, rfl, hfz, hnd⟩ := hW
  have hA : DataW.TrodAll enc Try.prog W 0 (fun _ => true) true Try.f6.params.toList args.toList ds p := hA0
  rw [Try.params6] at hA hval hsz
  obtain ⟨v0, vs0, d0, ds0, p0, q0, hargs, rfl, rfl, h0, r0⟩ := trodAll_cons hA
  obtain ⟨v1, vs1, d1, ds1, p1, q1, rfl, rfl, rfl, h1, r1⟩ := trodAll_cons r0
  obtain ⟨v2, vs2, d2, ds2, p2, q2, rfl, rfl, rfl, h2, r2⟩ := trodAll_cons r1
  obtain ⟨v3, vs3, d3, ds3, p3, q3, rfl, rfl, rfl, h3, r3⟩ := trodAll_cons r2
  obtain ⟨v4, vs4, d4, ds4, p4, q4, rfl, rfl, rfl, h4, r4⟩ := trodAll_cons r3
  obtain ⟨rfl, rfl, rfl⟩ := trodAll_nil r4
  obtain rfl : args = #[v0, v1, v2, v3, v4] := by cases args; simp_all
  obtain ⟨rfl, rfl⟩ := trodVars_none hV
  have k0 := h0
  have lt0 : ∀ x ∈ p0, x.block < W.heap.size := by obtain ⟨m, hm⟩ := k0; exact DataW.trod_lt m _ _ _ hm
  obtain ⟨ns0, hn0, rfl, hw0⟩ := Open.open_val (n := 8) (ks := ([.i64, .i64, .i64, .i64, .u64] : List IntKind)) Try.underlying30 (by kernel_rfl) (hval 0 30 v0 rfl rfl) h0
  obtain ⟨a0_0, a0_1, a0_2, a0_3, a0_4, rfl⟩ := ex5 hn0
  obtain ⟨w0_0, w0_1, w0_2, w0_3, w0_4, _⟩ := hw0
  have k1 := h1
  have lt1 : ∀ x ∈ p1, x.block < W.heap.size := by obtain ⟨m, hm⟩ := k1; exact DataW.trod_lt m _ _ _ hm
  obtain ⟨ns1, hn1, rfl, hw1⟩ := Open.open_val (n := 8) (ks := ([.i64, .i64, .i64, .i64, .u64] : List IntKind)) Try.underlying30 (by kernel_rfl) (hval 1 30 v1 rfl rfl) h1
  obtain ⟨a1_0, a1_1, a1_2, a1_3, a1_4, rfl⟩ := ex5 hn1
  obtain ⟨w1_0, w1_1, w1_2, w1_3, w1_4, _⟩ := hw1
  obtain ⟨A2, len2, cap2, rfl⟩ := okWide_slice Try.underlying31 (hval 2 31 v2 rfl rfl)
  have k2 := h2
  have lt2 : ∀ x ∈ p2, x.block < W.heap.size := by obtain ⟨m, hm⟩ := k2; exact DataW.trod_lt m _ _ _ hm
  obtain ⟨rows2, hlen2, hc2, hm2, hy2, hw2, hr2⟩ := Open.open_row (n := 8) (B := 1) (ks := ([.u8] : List IntKind)) (j := 2) (Go.Proofs.YtmgfmabmliphfaaW.PrintWords.Kd.int .u8) (fun ns => ns.headD 0) Try.underlying31 (by kernel_rfl) (by kernel_rfl) rfl (fun _ ns hn => by match ns, hn with | [_], _ => exact rfl) hsz rfl rfl (by kernel_rfl) h2
  obtain ⟨l2, hl2⟩ : ∃ l, l = rows2.map (fun ns => ns.headD 0) := ⟨_, rfl⟩
  have hll2 : l2.length = len2 := by rw [hl2, List.length_map, hlen2]
  rw [← hl2] at hr2
  subst hll2
  have m2 : l2.length ≤ maxLen := hm2
  have y2 : l2.length * 1 ≤ 140737488351232 := hy2
  have w2 : (∀ x ∈ l2, (Lit.int .u8 x).wf = true) := by
    intro x hx
    rw [hl2] at hx
    obtain ⟨ns, hns, rfl⟩ := List.mem_map.1 hx
    obtain ⟨hn, hww⟩ := hw2 ns hns
    obtain ⟨x0, rfl⟩ := ex1 hn
    exact hww.1
  obtain ⟨a3, rfl, rfl, rfl, w3⟩ := open_int Try.underlying3 (hval 3 3 v3 rfl rfl) h3
  obtain ⟨a4, rfl, rfl, rfl, w4⟩ := open_int Try.underlying5 (hval 4 5 v4 rfl rfl) h4
  clear hA0 hval0 hsz0 hsz
  obtain ⟨k, hk⟩ := Pure.CodeApart_row a0_0 a0_1 a0_2 a0_3 a0_4 a1_0 a1_1 a1_2 a1_3 a1_4 l2 a3 a4 w0_0 w0_1 w0_2 w0_3 w0_4 w1_0 w1_1 w1_2 w1_3 w1_4 m2 y2 w2 w3 w4
  refine (backreachlaw02_CodeApart.calls k a0_0 a0_1 a0_2 a0_3 a0_4 a1_0 a1_1 a1_2 a1_3 a1_4 _ _ l2 a3 a4 true W hr2 hc2 hk).mono ?_
  rintro e W' ⟨rfl, bel⟩
  exact ⟨_, rfl, _, _, _, [], _, [], hW', trodAll_mk1 (shut_bool Try.underlying4 _), (trodAll_cons_mk (Below.trod laidOut (by kernel_rfl) (of_decide_eq_true (by kernel_rfl)) k0 bel lt0) (trodAll_cons_mk (Below.trod laidOut (by kernel_rfl) (of_decide_eq_true (by kernel_rfl)) k1 bel lt1) (trodAll_cons_mk (Below.trod laidOut (by kernel_rfl) (of_decide_eq_true (by kernel_rfl)) k2 bel lt2) (trodAll_cons_mk (shut_int Try.underlying3 w3) (trodAll_cons_mk (shut_int Try.underlying5 w4) trodAll_mk0))))), rfl, bel.frame _, fun h => by cases h⟩
theorem over : Rows.codeApartRow.holds Try.pinned (OpenSpec.ofChange Rows.codeApartSpec) :=
  OpenClaim.holds_of_wide 6 Try.f6 rfl rfl rfl rfl rfl rfl rfl ⟨rfl, rfl, rfl, rfl, rfl⟩ rfl rfl rfl rfl rfl (by kernel_rfl) Try.func6 (by kernel_rfl)
    (of_decide_eq_true (by kernel_rfl)) (by unfold Func.isWrapper; first | (rw [if_pos (by decide +kernel)]; kernel_rfl) | (rw [if_neg (by decide +kernel)]; exact ⟨rfl, rfl⟩))
    (fun os started H enc _ => lifted os started H enc)
theorem proved : Rows.CodeApartSaid := over
#print axioms proved
end Go.Proofs.Ytmgfmabmliphfaa.codeApart
namespace Go.Proofs.Ytmgfmabmliphfaa
/-- The row, under a short name, for the claim. -/
theorem codeApart_holds : Rows.CodeApartSaid := codeApart.proved
end Go.Proofs.Ytmgfmabmliphfaa
