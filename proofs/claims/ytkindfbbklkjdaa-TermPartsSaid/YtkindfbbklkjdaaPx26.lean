/- What Go functions compute, and their walks: written by a program of this session (a turned copy of the kit's print) out of the translation. -/
import Derived.Test.YtkindfbbklkjdaaPx0
import Derived.Test.YtkindfbbklkjdaaPx23
import Derived.Test.YtkindfbbklkjdaaGh
namespace Go.Proofs.Ytkindfbbklkjdaa.P
open Go.RowKit Go.Proofs.YtkindfbbklkjdaaW.PrintWords Go.Proofs.YtkindfbbklkjdaaW.PrintLast Go.Proofs.YtkindfbbklkjdaaW.PrintMore
attribute [local go_sem] max2_int min2_int max_two min_two max_three min_three max_four min_four   -- for this text's walks alone
set_option linter.unusedVariables false
set_option linter.unusedSimpArgs false

/-! ### backreachlaw06_TermParts: function 5 -/
mutual
def backreachlaw06_TermParts.j0 : Nat → List (S32) → Int → Bool → Int → Int → Int → Int → Int → Int → Option (Bool)
 | 0, _, _, _, _, _, _, _, _, _ => none
 | k + 1, x0, x1, x27, x217000, x217001, x217002, x217003, x217004, x217005 => if x27 = true then (some true) else ((term_Check.f k x0).bind fun bt218 => (if 0 ≤ x1 then (if x1 ≤ (x0.length : Int) then ((term_Check.f k (x0.take (x1 : Int).toNat)).bind fun bt224 => (if bt218.1 = 0 then (if bt224.1 = 0 then (if bt224.2 = 0 then (backreachlaw06_TermParts.j1 k x0 bt218.1 bt218.2 false x217000 x217001 x217002 x217003 x217004 x217005) else (backreachlaw06_TermParts.j1 k x0 bt218.1 bt218.2 true x217000 x217001 x217002 x217003 x217004 x217005)) else (backreachlaw06_TermParts.j1 k x0 bt218.1 bt218.2 true x217000 x217001 x217002 x217003 x217004 x217005)) else (if bt224.1 = 0 then (backreachlaw06_TermParts.j1 k x0 bt218.1 bt218.2 false x217000 x217001 x217002 x217003 x217004 x217005) else (if bt218.1 = bt224.1 then (backreachlaw06_TermParts.j1 k x0 bt218.1 bt218.2 (bt218.2 != bt224.2) x217000 x217001 x217002 x217003 x217004 x217005) else (backreachlaw06_TermParts.j1 k x0 bt218.1 bt218.2 true x217000 x217001 x217002 x217003 x217004 x217005))))) else (none)) else (none)))
def backreachlaw06_TermParts.j1 : Nat → List (S32) → Int → Int → Bool → Int → Int → Int → Int → Int → Int → Option (Bool)
 | 0, _, _, _, _, _, _, _, _, _, _ => none
 | k + 1, x0, x7, x8, x63, x217000, x217001, x217002, x217003, x217004, x217005 => if x63 = true then (some false) else ((some (([] : List (S32)) : List (S32))).bind fun y226 => (if y226.length + x0.length < 2932031007402 then ((some (y226 ++ x0 : List (S32))).bind fun y229 => ((some (([(⟨x217000, x217001, x217002, (⟨x217003, x217004, x217005⟩ : S30)⟩ : S32)] : List (S32)) : List (S32))).bind fun y232 => (if y229.length + y232.length < 2932031007402 then ((term_Check.f k (y229 ++ y232)).bind fun bt238 => (if x7 = 0 then (if bt238.1 = 0 then (if bt238.2 = 0 then (some true) else (some false)) else (some (bt238.2 == (x0.length : Int)))) else (if bt238.1 = x7 then (if bt238.2 = x8 then (some true) else (some false)) else (some false)))) else (none)))) else (none)))
end
def backreachlaw06_TermParts.f (k : Nat) (l0 : List (S32)) (a1 : Int) (a2_0 : Int) (a2_1 : Int) (a2_2 : Int) (a2_3 : Int) (a2_4 : Int) (a2_5 : Int) : Option (Bool) := (backreachlaw06_awake.f).bind fun t217 => (if t217 = true then (if (l0.length : Int) > 300 then (backreachlaw06_TermParts.j0 k l0 a1 true a2_0 a2_1 a2_2 a2_3 a2_4 a2_5) else (if a1 < 1 then (backreachlaw06_TermParts.j0 k l0 a1 true a2_0 a2_1 a2_2 a2_3 a2_4 a2_5) else (backreachlaw06_TermParts.j0 k l0 a1 (decide (a1 > (l0.length : Int))) a2_0 a2_1 a2_2 a2_3 a2_4 a2_5))) else (some false))
theorem backreachlaw06_TermParts.mono_l : ∀ k, (∀ y0 y1 y2 y3 y4 y5 y6 y7 y8, LeO (backreachlaw06_TermParts.j0 k y0 y1 y2 y3 y4 y5 y6 y7 y8) (backreachlaw06_TermParts.j0 (k + 1) y0 y1 y2 y3 y4 y5 y6 y7 y8)) ∧ (∀ y0 y1 y2 y3 y4 y5 y6 y7 y8 y9, LeO (backreachlaw06_TermParts.j1 k y0 y1 y2 y3 y4 y5 y6 y7 y8 y9) (backreachlaw06_TermParts.j1 (k + 1) y0 y1 y2 y3 y4 y5 y6 y7 y8 y9))
 | 0 => ⟨fun _ _ _ _ _ _ _ _ _ r h => by simp [backreachlaw06_TermParts.j0] at h, fun _ _ _ _ _ _ _ _ _ _ r h => by simp [backreachlaw06_TermParts.j1] at h⟩
 | k + 1 => by
  obtain ⟨ih0, ih1⟩ := backreachlaw06_TermParts.mono_l k
  refine ⟨?_, ?_⟩
  ·
   intro y0 y1 y2 y3 y4 y5 y6 y7 y8
   unfold backreachlaw06_TermParts.j0
   repeat' first
   | (with_reducible exact ih0 _ _ _ _ _ _ _ _ _)
   | (with_reducible exact ih1 _ _ _ _ _ _ _ _ _ _)
   | (with_reducible exact term_Check.mono _ _)
   | (with_reducible exact LeO.refl _)
   | (with_reducible exact LeO.none _)
   | (with_reducible refine LeO.ite ?_ ?_)
   | (with_reducible refine LeO.bind ?_ (fun _ => ?_))
   | exact ih0 _ _ _ _ _ _ _ _ _
   | exact ih1 _ _ _ _ _ _ _ _ _ _
   | exact term_Check.mono _ _
   | exact LeO.none _
   | refine LeO.ite ?_ ?_
   | refine LeO.bind ?_ (fun _ => ?_)
  ·
   intro y0 y1 y2 y3 y4 y5 y6 y7 y8 y9
   unfold backreachlaw06_TermParts.j1
   repeat' first
   | (with_reducible exact ih0 _ _ _ _ _ _ _ _ _)
   | (with_reducible exact ih1 _ _ _ _ _ _ _ _ _ _)
   | (with_reducible exact term_Check.mono _ _)
   | (with_reducible exact LeO.refl _)
   | (with_reducible exact LeO.none _)
   | (with_reducible refine LeO.ite ?_ ?_)
   | (with_reducible refine LeO.bind ?_ (fun _ => ?_))
   | exact ih0 _ _ _ _ _ _ _ _ _
   | exact ih1 _ _ _ _ _ _ _ _ _ _
   | exact term_Check.mono _ _
   | exact LeO.none _
   | refine LeO.ite ?_ ?_
   | refine LeO.bind ?_ (fun _ => ?_)
theorem backreachlaw06_TermParts.mono : ∀ a0 a1 a2 a3 a4 a5 a6 a7 k, LeO (backreachlaw06_TermParts.f k a0 a1 a2 a3 a4 a5 a6 a7) (backreachlaw06_TermParts.f (k + 1) a0 a1 a2 a3 a4 a5 a6 a7) := by
 intro a0 a1 a2 a3 a4 a5 a6 a7 k
 obtain ⟨ih0, ih1⟩ := backreachlaw06_TermParts.mono_l k
 unfold backreachlaw06_TermParts.f
 repeat' first
   | (with_reducible exact ih0 _ _ _ _ _ _ _ _ _)
   | (with_reducible exact ih1 _ _ _ _ _ _ _ _ _ _)
   | (with_reducible exact term_Check.mono _ _)
   | (with_reducible exact LeO.refl _)
   | (with_reducible exact LeO.none _)
   | (with_reducible refine LeO.ite ?_ ?_)
   | (with_reducible refine LeO.bind ?_ (fun _ => ?_))
   | exact ih0 _ _ _ _ _ _ _ _ _
   | exact ih1 _ _ _ _ _ _ _ _ _ _
   | exact term_Check.mono _ _
   | exact LeO.none _
   | refine LeO.ite ?_ ?_
   | refine LeO.bind ?_ (fun _ => ?_)
def backreachlaw06_TermParts.T9 : Bool × List (List Nat × List Nat) := (true, [([], []), ([], []), ([0, 1], [0, 1]), ([], []), ([3], [3]), ([2, 4, 2], [2, 4]), ([5, 5], [5]), ([6], [6]), ([7], [7]), ([7], [7]), ([8, 6, 0, 1, 2, 3, 4, 5, 6, 7, 8], [8]), ([9, 10, 0, 1, 2, 3, 4, 5, 6, 7, 8, 9, 10], [9])])
def backreachlaw06_TermParts.B9 : List Nat := [0, 0, 3, 0, 8, 31, 63, 127, 255, 255, 511, 2047]
theorem backreachlaw06_TermParts.tab9 : rtab .any (opsOf Try.f5 9) = backreachlaw06_TermParts.T9 := by kernel_rfl
theorem backreachlaw06_TermParts.bits9 : waitsOk backreachlaw06_TermParts.T9.2 backreachlaw06_TermParts.B9 = true := by kernel_rfl
set_option maxHeartbeats 8000000 in
set_option maxRecDepth 100000 in
theorem backreachlaw06_TermParts.calls (k : Nat) (A0 : Option Addr) (c0 : Nat) (l0 : List (S32)) (a1 : Int) (a2_0 : Int) (a2_1 : Int) (a2_2 : Int) (a2_3 : Int) (a2_4 : Int) (a2_5 : Int) (r : Bool) (w : World) (hr0 : Kd.C k32 w A0 l0.length l0) (hc0 : l0.length ≤ c0) (h : backreachlaw06_TermParts.f k l0 a1 a2_0 a2_1 a2_2 a2_3 a2_4 a2_5 = some r) :
  Calls Try.prog 5 #[.slice A0 l0.length c0, .int .i64 a1, .agg #[.int .i64 a2_0, .int .i64 a2_1, .int .u64 a2_2, .int .i64 a2_3, .int .i64 a2_4, .int .i64 a2_5]] w fun e w' => e = .returned (.bool r) ∧ Below w.heap.size w w' := by
 have hu32 := Try.underlying32
 have HR0 := Aside0.mk hr0
 have HC0 := Aside0.mk hc0
 clear hr0 hc0
 have HB := Aside0.mk (Below.refl w.heap.size w)
 have H : ((backreachlaw06_awake.f).bind fun t217 => (if t217 = true then (if (l0.length : Int) > 300 then (backreachlaw06_TermParts.j0 k l0 a1 true a2_0 a2_1 a2_2 a2_3 a2_4 a2_5) else (if a1 < 1 then (backreachlaw06_TermParts.j0 k l0 a1 true a2_0 a2_1 a2_2 a2_3 a2_4 a2_5) else (backreachlaw06_TermParts.j0 k l0 a1 (decide (a1 > (l0.length : Int))) a2_0 a2_1 a2_2 a2_3 a2_4 a2_5))) else (some false))) = some r := h
 clear h
 replace H := Option.bind_eq_some_iff.mp H
 obtain ⟨t217, A40, H⟩ := H
 replace H : (if t217 = true then (if (l0.length : Int) > 300 then (backreachlaw06_TermParts.j0 k l0 a1 true a2_0 a2_1 a2_2 a2_3 a2_4 a2_5) else (if a1 < 1 then (backreachlaw06_TermParts.j0 k l0 a1 true a2_0 a2_1 a2_2 a2_3 a2_4 a2_5) else (backreachlaw06_TermParts.j0 k l0 a1 (decide (a1 > (l0.length : Int))) a2_0 a2_1 a2_2 a2_3 a2_4 a2_5))) else (some false)) = some r := H
 have A4 := Aside0.mk A40
 clear A40
 by_cases c5 : t217 = true
 ·
  subst c5
  have H1 : (if (l0.length : Int) > 300 then (backreachlaw06_TermParts.j0 k l0 a1 true a2_0 a2_1 a2_2 a2_3 a2_4 a2_5) else (if a1 < 1 then (backreachlaw06_TermParts.j0 k l0 a1 true a2_0 a2_1 a2_2 a2_3 a2_4 a2_5) else (backreachlaw06_TermParts.j0 k l0 a1 (decide (a1 > (l0.length : Int))) a2_0 a2_1 a2_2 a2_3 a2_4 a2_5))) = some r := by rw [if_pos rfl] at H; exact H
  clear H
  have H := H1
  clear H1
  have HC6 := Aside0.mk H
  clear H
  go_enter Try.func5, Try.ntmps5
  go_upto_region 3 with (first | ((with_reducible refine gate_dst (N := 5) rfl ?_); (try (refine gate_guard (by rfl) ?_; dsimp only)); refine box_event ?hg (N := 5) ?hd (cs := #[.int .i64 a2_0, .int .i64 a2_1, .int .u64 a2_2, .int .i64 a2_3, .int .i64 a2_4, .int .i64 a2_5]) (t := 32) ?hr ?_; (case hd => rfl); (case hg => rfl); (case hr => first | (go_simp; done) | (go_simp; rfl)); intro gb216 hg w7 hbox hb; have n0_ := Aside0.mk (below_step (by repeat (first | (with_reducible first | exact HB.out | apply below_alloc | apply pw_below_drewN | apply below_drew1) | exact HB.out)) hb); have n1_ := Aside0.mk (hbox); have n2_ := Aside0.mk ((by rw [hg]; exact (below_size (by repeat (first | (with_reducible first | exact HB.out | apply below_alloc | apply pw_below_drewN | apply below_drew1) | exact HB.out))) : w.heap.size ≤ gb216)); have n3_ := Aside0.mk ((by rw [hg]; exact (below_size (by repeat (first | (with_reducible first | exact HB.out | apply below_alloc | apply pw_below_drewN | apply below_drew1) | exact HB.out))) : w.heap.size ≤ gb216)); clear HB; have HB := n0_; have BK216 := n1_; have GW216 := n2_; have GE216 := n3_; clear n0_ n1_ n2_ n3_; clear hb hbox hg) | ((with_reducible refine gate_callee (f := 9) rfl ?_); refine goesL_ (some 13) rfl rfl Try.func9 (by kernel_rfl) rfl #[] rfl (by (try simp only [List.map_toArray, List.map_cons, List.map_nil]); first | done | rfl | (simp only [List.length_drop, List.length_take]; rfl)) ?_; (with_reducible refine (backreachlaw06_awake.calls  true _ A4.out).mono ?_); rintro e w8 ⟨rfl, hb⟩; refine ⟨_, rfl, ?_⟩; have n0_ := Aside0.mk (blk_below (g := gb216) (o := .cells #[.int .i64 a2_0, .int .i64 a2_1, .int .u64 a2_2, .int .i64 a2_3, .int .i64 a2_4, .int .i64 a2_5] 32 (0, 0)) (by (with_reducible repeat (first | refine blk_drewN ?_ _ | refine blk_drew ?_ | refine blk_alloc ?_ _)); exact BK216.out) hb); have n1_ := Aside0.mk (below_step (by repeat (first | (with_reducible first | exact HB.out | apply below_alloc | apply pw_below_drewN | apply below_drew1 | refine below_set ?_ GE216.out) | exact HB.out)) hb); clear BK216; clear HB; have BK216 := n0_; have HB := n1_; clear n0_ n1_; (try clear hb); (try clear hb2); (try clear hk); (try clear hi)))
  (try simp only [Act.put, List.setIfInBounds_toArray, List.set_cons_zero, List.set_cons_succ])
  go_cut [27] (fun v27 wc => ∃ (kq : Nat) (x27_5 : Bool), v27 = .bool x27_5 ∧ Aside0 (backreachlaw06_TermParts.j0 kq l0 a1 x27_5 a2_0 a2_1 a2_2 a2_3 a2_4 a2_5 = some r) ∧ Aside0 (kq ≤ k) ∧ Aside0 (wc.heap[gb216]? = some (.cells #[.int .i64 a2_0, .int .i64 a2_1, .int .u64 a2_2, .int .i64 a2_3, .int .i64 a2_4, .int .i64 a2_5] 32 (0, 0))) ∧ Aside0 (Below w.heap.size w wc))
  case first =>
   have H := HC6.out
   clear HC6
   by_cases c9 : (l0.length : Int) > 300
   ·
    rw [if_pos c9] at H
    have c9b0 : decide (300 < (l0.length : Int)) = true := decide_eq_true c9
    have c9b1 : decide (300 < l0.length) = true := decide_eq_true (by omega)
    clear c9
    (first | rw [c9b0] | (simp only [i64_w, i32_w]; rw [c9b0]) | skip)
    have H' := Aside0.mk H
    clear H
    go_wp2
    go_meet
    case rel => exact ⟨_, (true), (by first | rfl | (simp; done) | (simp [*]; done)), H', ⟨by first | omega | exact Nat.le_refl _⟩, ⟨by (with_reducible repeat (first | refine blk_drewN ?_ _ | refine blk_drew ?_ | refine blk_alloc ?_ _)); exact BK216.out⟩, ⟨by repeat (first | (with_reducible first | exact HB.out | apply below_alloc | apply pw_below_drewN | apply below_drew1 | refine below_set ?_ GE216.out) | exact HB.out)⟩⟩
   ·
    rw [if_neg c9] at H
    have c9b0 : decide (300 < (l0.length : Int)) = false := decide_eq_false c9
    have c9b1 : decide (300 < l0.length) = false := decide_eq_false (by omega)
    clear c9
    (first | rw [c9b0] | (simp only [i64_w, i32_w]; rw [c9b0]) | skip)
    by_cases c10 : a1 < 1
    ·
     rw [if_pos c10] at H
     have c10b0 : decide (a1 < 1) = true := decide_eq_true c10
     clear c10
     have H' := Aside0.mk H
     clear H
     go_wp2
     go_meet
     case rel => exact ⟨_, (true), (by first | rfl | (simp; done) | (simp [*]; done)), H', ⟨by first | omega | exact Nat.le_refl _⟩, ⟨by (with_reducible repeat (first | refine blk_drewN ?_ _ | refine blk_drew ?_ | refine blk_alloc ?_ _)); exact BK216.out⟩, ⟨by repeat (first | (with_reducible first | exact HB.out | apply below_alloc | apply pw_below_drewN | apply below_drew1 | refine below_set ?_ GE216.out) | exact HB.out)⟩⟩
    ·
     rw [if_neg c10] at H
     have c10b0 : decide (a1 < 1) = false := decide_eq_false c10
     clear c10
     have H' := Aside0.mk H
     clear H
     go_wp2
     go_meet
     case rel => exact ⟨_, (decide (a1 > (l0.length : Int))), (by first | rfl | (simp; done) | (simp [*]; done)), H', ⟨by first | omega | exact Nat.le_refl _⟩, ⟨by (with_reducible repeat (first | refine blk_drewN ?_ _ | refine blk_drew ?_ | refine blk_alloc ?_ _)); exact BK216.out⟩, ⟨by repeat (first | (with_reducible first | exact HB.out | apply below_alloc | apply pw_below_drewN | apply below_drew1 | refine below_set ?_ GE216.out) | exact HB.out)⟩⟩
  case rest =>
   clear HC6
   try clear c1
   try clear p2
   try clear c5
   try clear c9
   try clear c9b0
   try clear c9b1
   try clear c10
   try clear c10b0
   obtain ⟨kq, x27_5, rfl, HA, HJ5, BK216, HB⟩ := hcut
   cases kq with
   | zero => exact absurd HA.out (by simp [backreachlaw06_TermParts.j0])
   | succ kj5 =>
    have H := HA.out
    clear HA
    simp only [backreachlaw06_TermParts.j0] at H
    by_cases c11 : x27_5 = true
    ·
     subst c11
     have H1 : (some true) = some r := by rw [if_pos rfl] at H; exact H
     clear H
     have H := H1
     clear H1
     obtain rfl := Option.some.inj H
     go_wp2
     go_ret
     exact ⟨by first | rfl | (simp [errW_none, errW_some] <;> rfl) | (simp [*, errW_none, errW_some] <;> rfl), by repeat (first | (with_reducible first | exact HB.out | apply below_alloc | apply pw_below_drewN | apply below_drew1 | refine below_set ?_ GE216.out) | exact HB.out)⟩
    ·
     replace c11 := Bool.eq_false_iff.mpr c11
     subst c11
     have H1 : ((term_Check.f kj5 l0).bind fun bt218 => (if 0 ≤ a1 then (if a1 ≤ (l0.length : Int) then ((term_Check.f kj5 (l0.take (a1 : Int).toNat)).bind fun bt224 => (if bt218.1 = 0 then (if bt224.1 = 0 then (if bt224.2 = 0 then (backreachlaw06_TermParts.j1 kj5 l0 bt218.1 bt218.2 false a2_0 a2_1 a2_2 a2_3 a2_4 a2_5) else (backreachlaw06_TermParts.j1 kj5 l0 bt218.1 bt218.2 true a2_0 a2_1 a2_2 a2_3 a2_4 a2_5)) else (backreachlaw06_TermParts.j1 kj5 l0 bt218.1 bt218.2 true a2_0 a2_1 a2_2 a2_3 a2_4 a2_5)) else (if bt224.1 = 0 then (backreachlaw06_TermParts.j1 kj5 l0 bt218.1 bt218.2 false a2_0 a2_1 a2_2 a2_3 a2_4 a2_5) else (if bt218.1 = bt224.1 then (backreachlaw06_TermParts.j1 kj5 l0 bt218.1 bt218.2 (bt218.2 != bt224.2) a2_0 a2_1 a2_2 a2_3 a2_4 a2_5) else (backreachlaw06_TermParts.j1 kj5 l0 bt218.1 bt218.2 true a2_0 a2_1 a2_2 a2_3 a2_4 a2_5))))) else (none)) else (none))) = some r := by rw [if_neg (show ¬ (false = true) by decide)] at H; exact H
     clear H
     have H := H1
     clear H1
     replace H := Option.bind_eq_some_iff.mp H
     obtain ⟨⟨t218, t219⟩, A120, H⟩ := H
     replace H : (if 0 ≤ a1 then (if a1 ≤ (l0.length : Int) then ((term_Check.f kj5 (l0.take (a1 : Int).toNat)).bind fun bt224 => (if t218 = 0 then (if bt224.1 = 0 then (if bt224.2 = 0 then (backreachlaw06_TermParts.j1 kj5 l0 t218 t219 false a2_0 a2_1 a2_2 a2_3 a2_4 a2_5) else (backreachlaw06_TermParts.j1 kj5 l0 t218 t219 true a2_0 a2_1 a2_2 a2_3 a2_4 a2_5)) else (backreachlaw06_TermParts.j1 kj5 l0 t218 t219 true a2_0 a2_1 a2_2 a2_3 a2_4 a2_5)) else (if bt224.1 = 0 then (backreachlaw06_TermParts.j1 kj5 l0 t218 t219 false a2_0 a2_1 a2_2 a2_3 a2_4 a2_5) else (if t218 = bt224.1 then (backreachlaw06_TermParts.j1 kj5 l0 t218 t219 (t219 != bt224.2) a2_0 a2_1 a2_2 a2_3 a2_4 a2_5) else (backreachlaw06_TermParts.j1 kj5 l0 t218 t219 true a2_0 a2_1 a2_2 a2_3 a2_4 a2_5))))) else (none)) else (none)) = some r := H
     have A12 := Aside0.mk A120
     clear A120
     by_cases c13 : 0 ≤ a1
     ·
      rw [if_pos c13] at H
      have c13b0 := eq_true c13
      have c13b1 : decide (0 ≤ a1) = true := decide_eq_true c13
      clear c13
      by_cases c14 : a1 ≤ (l0.length : Int)
      ·
       rw [if_pos c14] at H
       have c14b0 := eq_true c14
       have c14b1 : decide (a1 ≤ (l0.length : Int)) = true := decide_eq_true c14
       clear c14
       obtain ⟨y220, hy220⟩ : ∃ y_ : List (S32), y_ = (l0.take (a1 : Int).toNat) := ⟨_, rfl⟩
       replace H : ((term_Check.f kj5 y220).bind fun bt224 => (if t218 = 0 then (if bt224.1 = 0 then (if bt224.2 = 0 then (backreachlaw06_TermParts.j1 kj5 l0 t218 t219 false a2_0 a2_1 a2_2 a2_3 a2_4 a2_5) else (backreachlaw06_TermParts.j1 kj5 l0 t218 t219 true a2_0 a2_1 a2_2 a2_3 a2_4 a2_5)) else (backreachlaw06_TermParts.j1 kj5 l0 t218 t219 true a2_0 a2_1 a2_2 a2_3 a2_4 a2_5)) else (if bt224.1 = 0 then (backreachlaw06_TermParts.j1 kj5 l0 t218 t219 false a2_0 a2_1 a2_2 a2_3 a2_4 a2_5) else (if t218 = bt224.1 then (backreachlaw06_TermParts.j1 kj5 l0 t218 t219 (t219 != bt224.2) a2_0 a2_1 a2_2 a2_3 a2_4 a2_5) else (backreachlaw06_TermParts.j1 kj5 l0 t218 t219 true a2_0 a2_1 a2_2 a2_3 a2_4 a2_5))))) = some r := by first | (rw [hy220]; with_reducible exact H) | (have H2_ := (Option.bind_some _ _).symm.trans H; rw [hy220]; with_reducible exact H2_) | (have H2_ := (Option.bind_some _ _).symm.trans H; with_reducible exact H2_) | with_reducible exact H | (rw [hy220]; exact H) | exact H
       have Ny220 := Aside0.mk hy220
       clear hy220
       replace H := Option.bind_eq_some_iff.mp H
       obtain ⟨⟨t224, t225⟩, A150, H⟩ := H
       replace H : (if t218 = 0 then (if t224 = 0 then (if t225 = 0 then (backreachlaw06_TermParts.j1 kj5 l0 t218 t219 false a2_0 a2_1 a2_2 a2_3 a2_4 a2_5) else (backreachlaw06_TermParts.j1 kj5 l0 t218 t219 true a2_0 a2_1 a2_2 a2_3 a2_4 a2_5)) else (backreachlaw06_TermParts.j1 kj5 l0 t218 t219 true a2_0 a2_1 a2_2 a2_3 a2_4 a2_5)) else (if t224 = 0 then (backreachlaw06_TermParts.j1 kj5 l0 t218 t219 false a2_0 a2_1 a2_2 a2_3 a2_4 a2_5) else (if t218 = t224 then (backreachlaw06_TermParts.j1 kj5 l0 t218 t219 (t219 != t225) a2_0 a2_1 a2_2 a2_3 a2_4 a2_5) else (backreachlaw06_TermParts.j1 kj5 l0 t218 t219 true a2_0 a2_1 a2_2 a2_3 a2_4 a2_5)))) = some r := H
       have A15 := Aside0.mk A150
       clear A150
       have HC16 := Aside0.mk H
       clear H
       go_upto_region 7 with (first | ((with_reducible refine gate_callee (f := 19) rfl ?_); refine goesL_ (some 30) rfl rfl Try.func19 (by kernel_rfl) rfl #[.slice A0 l0.length c0] rfl (by (try simp only [List.map_toArray, List.map_cons, List.map_nil]); first | done | rfl | (simp only [List.length_drop, List.length_take]; rfl)) ?_; (with_reducible refine (term_Check.calls kj5 _ _ l0 t218 t219 _ ?side1 ?side2 A12.out).mono ?_); (case side1 => repeat (first | exact (Kd.C_below HR0.out HB.out) | (with_reducible refine Kd.C_alloc ?_ _) | (with_reducible refine Kd.C_drewN ?_ _) | (with_reducible refine Kd.C_drew ?_))); (case side2 => exact HC0.out); rintro e w17 ⟨rfl, hb⟩; refine ⟨_, rfl, ?_⟩; have n0_ := Aside0.mk (blk_below (g := gb216) (o := .cells #[.int .i64 a2_0, .int .i64 a2_1, .int .u64 a2_2, .int .i64 a2_3, .int .i64 a2_4, .int .i64 a2_5] 32 (0, 0)) (by (with_reducible repeat (first | refine blk_drewN ?_ _ | refine blk_drew ?_ | refine blk_alloc ?_ _)); exact BK216.out) hb); have n1_ := Aside0.mk (below_step (by repeat (first | (with_reducible first | exact HB.out | apply below_alloc | apply pw_below_drewN | apply below_drew1 | refine below_set ?_ GE216.out) | exact HB.out)) hb); clear BK216; clear HB; have BK216 := n0_; have HB := n1_; clear n0_ n1_; (try clear hb); (try clear hb2); (try clear hk); (try clear hi); have q18 : (a1 : Int) ≤ ((l0.length : Int) : Int) := of_decide_eq_true (by first | (with_reducible assumption) | assumption); obtain ⟨i018, hi018, _, hsz18, _⟩ := info_parts info32; have hroom18 : l0.length ≤ c0 := HC0.out; have hC18 : Kd.C k32 _ A0 l0.length l0 := HR0.out; have hcut18 := cut_to (P := Try.prog) 22 32 .i64 Try.underlying22 hi018 A0 l0.length c0 a1 (of_decide_eq_true (by first | (with_reducible assumption) | assumption)) q18 hroom18; have hr18 := Kd.C_take (m := (a1 : Int).toNat) hC18 (by omega); have hy18 : y220.length = (a1 : Int).toNat := (by rw [Ny220.out, List.length_take]; omega); rw [← Ny220.out] at hr18; rw [← hy18] at hcut18; have HR223 := Aside0.mk hr18; have HC223 := Aside0.mk (show y220.length ≤ c0 from by omega); clear hr18 hC18 hroom18 hi018 hsz18; have KY18 := Aside0.mk hy18; clear hy18; replace q18 := eq_true q18) | ((with_reducible refine gate_callee (f := 19) rfl ?_); refine goesL_ (some 37) rfl rfl Try.func19 (by kernel_rfl) rfl #[.slice A0 y220.length c0] rfl (by (try simp only [List.map_toArray, List.map_cons, List.map_nil]); first | done | rfl | (simp only [List.length_drop, List.length_take]; rfl)) ?_; (with_reducible refine (term_Check.calls kj5 _ _ y220 t224 t225 _ ?side1 ?side2 A15.out).mono ?_); (case side1 => repeat (first | exact (Kd.C_below HR223.out HB.out) | (with_reducible refine Kd.C_alloc ?_ _) | (with_reducible refine Kd.C_drewN ?_ _) | (with_reducible refine Kd.C_drew ?_))); (case side2 => exact HC223.out); rintro e w19 ⟨rfl, hb⟩; refine ⟨_, rfl, ?_⟩; have n0_ := Aside0.mk (blk_below (g := gb216) (o := .cells #[.int .i64 a2_0, .int .i64 a2_1, .int .u64 a2_2, .int .i64 a2_3, .int .i64 a2_4, .int .i64 a2_5] 32 (0, 0)) (by (with_reducible repeat (first | refine blk_drewN ?_ _ | refine blk_drew ?_ | refine blk_alloc ?_ _)); exact BK216.out) hb); have n1_ := Aside0.mk (below_step (by repeat (first | (with_reducible first | exact HB.out | apply below_alloc | apply pw_below_drewN | apply below_drew1 | refine below_set ?_ GE216.out) | exact HB.out)) hb); clear BK216; clear HB; have BK216 := n0_; have HB := n1_; clear n0_ n1_; (try clear hb); (try clear hb2); (try clear hk); (try clear hi)))
       (try simp only [Act.put, List.setIfInBounds_toArray, List.set_cons_zero, List.set_cons_succ])
       go_cut [63] (fun v63 wc => ∃ (kq : Nat) (x63_15 : Bool), v63 = .bool x63_15 ∧ Aside0 (backreachlaw06_TermParts.j1 kq l0 t218 t219 x63_15 a2_0 a2_1 a2_2 a2_3 a2_4 a2_5 = some r) ∧ Aside0 (kq ≤ kj5) ∧ Aside0 (wc.heap[gb216]? = some (.cells #[.int .i64 a2_0, .int .i64 a2_1, .int .u64 a2_2, .int .i64 a2_3, .int .i64 a2_4, .int .i64 a2_5] 32 (0, 0))) ∧ Aside0 (Below w.heap.size w wc))
       case first =>
        have H := HC16.out
        clear HC16
        by_cases c20 : t218 = 0
        ·
         rw [if_pos c20] at H
         have c20b0 : (t218 == 0) = true := beq_iff_eq.mpr c20
         have c20b1 : (t218 != 0) = false := bne_eq_false_iff_eq.mpr c20
         clear c20
         (first | rw [c20b0] | (simp only [i64_w, i32_w]; rw [c20b0]) | skip)
         by_cases c21 : t224 = 0
         ·
          rw [if_pos c21] at H
          have c21b0 : (t224 == 0) = true := beq_iff_eq.mpr c21
          have c21b1 : (t224 != 0) = false := bne_eq_false_iff_eq.mpr c21
          clear c21
          by_cases c22 : t225 = 0
          ·
           rw [if_pos c22] at H
           have c22b0 : (t225 == 0) = true := beq_iff_eq.mpr c22
           have c22b1 : (t225 != 0) = false := bne_eq_false_iff_eq.mpr c22
           clear c22
           have H' := Aside0.mk H
           clear H
           go_wp2
           go_meet
           case rel => exact ⟨_, (false), (by first | rfl | (simp; done) | (simp [*]; done)), H', ⟨by have := HJ5.out; first | omega | exact Nat.le_refl _⟩, ⟨by (with_reducible repeat (first | refine blk_drewN ?_ _ | refine blk_drew ?_ | refine blk_alloc ?_ _)); exact BK216.out⟩, ⟨by repeat (first | (with_reducible first | exact HB.out | apply below_alloc | apply pw_below_drewN | apply below_drew1 | refine below_set ?_ GE216.out) | exact HB.out)⟩⟩
          ·
           rw [if_neg c22] at H
           have c22b0 : (t225 == 0) = false := beq_eq_false_iff_ne.mpr c22
           have c22b1 : (t225 != 0) = true := bne_iff_ne.mpr c22
           have H' := Aside0.mk H
           clear H
           go_wp2
           go_meet
           case rel => exact ⟨_, (true), (by first | rfl | (simp; done) | (simp [*]; done)), H', ⟨by have := HJ5.out; first | omega | exact Nat.le_refl _⟩, ⟨by (with_reducible repeat (first | refine blk_drewN ?_ _ | refine blk_drew ?_ | refine blk_alloc ?_ _)); exact BK216.out⟩, ⟨by repeat (first | (with_reducible first | exact HB.out | apply below_alloc | apply pw_below_drewN | apply below_drew1 | refine below_set ?_ GE216.out) | exact HB.out)⟩⟩
         ·
          rw [if_neg c21] at H
          have c21b0 : (t224 == 0) = false := beq_eq_false_iff_ne.mpr c21
          have c21b1 : (t224 != 0) = true := bne_iff_ne.mpr c21
          have H' := Aside0.mk H
          clear H
          go_wp2
          go_meet
          case rel => exact ⟨_, (true), (by first | rfl | (simp; done) | (simp [*]; done)), H', ⟨by have := HJ5.out; first | omega | exact Nat.le_refl _⟩, ⟨by (with_reducible repeat (first | refine blk_drewN ?_ _ | refine blk_drew ?_ | refine blk_alloc ?_ _)); exact BK216.out⟩, ⟨by repeat (first | (with_reducible first | exact HB.out | apply below_alloc | apply pw_below_drewN | apply below_drew1 | refine below_set ?_ GE216.out) | exact HB.out)⟩⟩
        ·
         rw [if_neg c20] at H
         have c20b0 : (t218 == 0) = false := beq_eq_false_iff_ne.mpr c20
         have c20b1 : (t218 != 0) = true := bne_iff_ne.mpr c20
         (first | rw [c20b0] | (simp only [i64_w, i32_w]; rw [c20b0]) | skip)
         by_cases c23 : t224 = 0
         ·
          rw [if_pos c23] at H
          have c23b0 : (t224 == 0) = true := beq_iff_eq.mpr c23
          have c23b1 : (t224 != 0) = false := bne_eq_false_iff_eq.mpr c23
          clear c23
          have H' := Aside0.mk H
          clear H
          go_wp2
          go_meet
          case rel => exact ⟨_, (false), (by first | rfl | (simp; done) | (simp [*]; done)), H', ⟨by have := HJ5.out; first | omega | exact Nat.le_refl _⟩, ⟨by (with_reducible repeat (first | refine blk_drewN ?_ _ | refine blk_drew ?_ | refine blk_alloc ?_ _)); exact BK216.out⟩, ⟨by repeat (first | (with_reducible first | exact HB.out | apply below_alloc | apply pw_below_drewN | apply below_drew1 | refine below_set ?_ GE216.out) | exact HB.out)⟩⟩
         ·
          rw [if_neg c23] at H
          have c23b0 : (t224 == 0) = false := beq_eq_false_iff_ne.mpr c23
          have c23b1 : (t224 != 0) = true := bne_iff_ne.mpr c23
          by_cases c24 : t218 = t224
          ·
           rw [if_pos c24] at H
           have c24b0 : (t218 == t224) = true := beq_iff_eq.mpr c24
           have c24b1 : (t218 != t224) = false := bne_eq_false_iff_eq.mpr c24
           clear c24
           have H' := Aside0.mk H
           clear H
           go_wp2
           go_meet
           case rel => exact ⟨_, ((t219 != t225)), (by first | rfl | (simp; done) | (simp [*]; done)), H', ⟨by have := HJ5.out; first | omega | exact Nat.le_refl _⟩, ⟨by (with_reducible repeat (first | refine blk_drewN ?_ _ | refine blk_drew ?_ | refine blk_alloc ?_ _)); exact BK216.out⟩, ⟨by repeat (first | (with_reducible first | exact HB.out | apply below_alloc | apply pw_below_drewN | apply below_drew1 | refine below_set ?_ GE216.out) | exact HB.out)⟩⟩
          ·
           rw [if_neg c24] at H
           have c24b0 : (t218 == t224) = false := beq_eq_false_iff_ne.mpr c24
           have c24b1 : (t218 != t224) = true := bne_iff_ne.mpr c24
           have H' := Aside0.mk H
           clear H
           go_wp2
           go_meet
           case rel => exact ⟨_, (true), (by first | rfl | (simp; done) | (simp [*]; done)), H', ⟨by have := HJ5.out; first | omega | exact Nat.le_refl _⟩, ⟨by (with_reducible repeat (first | refine blk_drewN ?_ _ | refine blk_drew ?_ | refine blk_alloc ?_ _)); exact BK216.out⟩, ⟨by repeat (first | (with_reducible first | exact HB.out | apply below_alloc | apply pw_below_drewN | apply below_drew1 | refine below_set ?_ GE216.out) | exact HB.out)⟩⟩
       case rest =>
        clear HC16
        try clear c1
        try clear q1
        try clear c2
        try clear p2
        try clear c5
        try clear c9
        try clear c9b0
        try clear c9b1
        try clear c10
        try clear c10b0
        try clear c11
        try clear c13
        try clear c13b0
        try clear c13b1
        try clear c14
        try clear c14b0
        try clear c14b1
        try clear q18
        try clear c19
        try clear c20
        try clear c20b0
        try clear c20b1
        try clear c21
        try clear c21b0
        try clear c21b1
        try clear c22
        try clear c22b0
        try clear c22b1
        try clear c23
        try clear c23b0
        try clear c23b1
        try clear c24
        try clear c24b0
        try clear c24b1
        try clear p2
        try clear q18
        obtain ⟨kq, x63_15, rfl, HA, HJ15, BK216, HB⟩ := hcut
        cases kq with
        | zero => exact absurd HA.out (by simp [backreachlaw06_TermParts.j1])
        | succ kj15 =>
         have H := HA.out
         clear HA
         simp only [backreachlaw06_TermParts.j1] at H
         by_cases c25 : x63_15 = true
         ·
          subst c25
          have H1 : (some false) = some r := by rw [if_pos rfl] at H; exact H
          clear H
          have H := H1
          clear H1
          obtain rfl := Option.some.inj H
          go_wp2
          go_ret
          exact ⟨by first | rfl | (simp [errW_none, errW_some] <;> rfl) | (simp [*, errW_none, errW_some] <;> rfl), by repeat (first | (with_reducible first | exact HB.out | apply below_alloc | apply pw_below_drewN | apply below_drew1 | refine below_set ?_ GE216.out) | exact HB.out)⟩
         ·
          replace c25 := Bool.eq_false_iff.mpr c25
          subst c25
          have H1 : ((some (([] : List (S32)) : List (S32))).bind fun y226 => (if y226.length + l0.length < 2932031007402 then ((some (y226 ++ l0 : List (S32))).bind fun y229 => ((some (([(⟨a2_0, a2_1, a2_2, (⟨a2_3, a2_4, a2_5⟩ : S30)⟩ : S32)] : List (S32)) : List (S32))).bind fun y232 => (if y229.length + y232.length < 2932031007402 then ((term_Check.f kj15 (y229 ++ y232)).bind fun bt238 => (if t218 = 0 then (if bt238.1 = 0 then (if bt238.2 = 0 then (some true) else (some false)) else (some (bt238.2 == (l0.length : Int)))) else (if bt238.1 = t218 then (if bt238.2 = t219 then (some true) else (some false)) else (some false)))) else (none)))) else (none))) = some r := by rw [if_neg (show ¬ (false = true) by decide)] at H; exact H
          clear H
          have H := H1
          clear H1
          obtain ⟨y226, hy226⟩ : ∃ y_ : List (S32), y_ = (([] : List (S32))) := ⟨_, rfl⟩
          replace H : (if y226.length + l0.length < 2932031007402 then ((some (y226 ++ l0 : List (S32))).bind fun y229 => ((some (([(⟨a2_0, a2_1, a2_2, (⟨a2_3, a2_4, a2_5⟩ : S30)⟩ : S32)] : List (S32)) : List (S32))).bind fun y232 => (if y229.length + y232.length < 2932031007402 then ((term_Check.f kj15 (y229 ++ y232)).bind fun bt238 => (if t218 = 0 then (if bt238.1 = 0 then (if bt238.2 = 0 then (some true) else (some false)) else (some (bt238.2 == (l0.length : Int)))) else (if bt238.1 = t218 then (if bt238.2 = t219 then (some true) else (some false)) else (some false)))) else (none)))) else (none)) = some r := by first | (rw [hy226]; with_reducible exact H) | (have H2_ := (Option.bind_some _ _).symm.trans H; rw [hy226]; with_reducible exact H2_) | (have H2_ := (Option.bind_some _ _).symm.trans H; with_reducible exact H2_) | with_reducible exact H | (rw [hy226]; exact H) | exact H
          have Ny226 := Aside0.mk hy226
          clear hy226
          by_cases c26 : y226.length + l0.length < 2932031007402
          ·
           rw [if_pos c26] at H
           have LMc26 := Aside0.mk c26
           clear c26
           obtain ⟨y229, hy229⟩ : ∃ y_ : List (S32), y_ = (y226 ++ l0) := ⟨_, rfl⟩
           replace H : ((some (([(⟨a2_0, a2_1, a2_2, (⟨a2_3, a2_4, a2_5⟩ : S30)⟩ : S32)] : List (S32)) : List (S32))).bind fun y232 => (if y229.length + y232.length < 2932031007402 then ((term_Check.f kj15 (y229 ++ y232)).bind fun bt238 => (if t218 = 0 then (if bt238.1 = 0 then (if bt238.2 = 0 then (some true) else (some false)) else (some (bt238.2 == (l0.length : Int)))) else (if bt238.1 = t218 then (if bt238.2 = t219 then (some true) else (some false)) else (some false)))) else (none))) = some r := by first | (rw [hy229]; with_reducible exact H) | (have H2_ := (Option.bind_some _ _).symm.trans H; rw [hy229]; with_reducible exact H2_) | (have H2_ := (Option.bind_some _ _).symm.trans H; with_reducible exact H2_) | with_reducible exact H | (rw [hy229]; exact H) | exact H
           have Ny229 := Aside0.mk hy229
           clear hy229
           obtain ⟨y232, hy232⟩ : ∃ y_ : List (S32), y_ = (([(⟨a2_0, a2_1, a2_2, (⟨a2_3, a2_4, a2_5⟩ : S30)⟩ : S32)] : List (S32))) := ⟨_, rfl⟩
           replace H : (if y229.length + y232.length < 2932031007402 then ((term_Check.f kj15 (y229 ++ y232)).bind fun bt238 => (if t218 = 0 then (if bt238.1 = 0 then (if bt238.2 = 0 then (some true) else (some false)) else (some (bt238.2 == (l0.length : Int)))) else (if bt238.1 = t218 then (if bt238.2 = t219 then (some true) else (some false)) else (some false)))) else (none)) = some r := by first | (rw [hy232]; with_reducible exact H) | (have H2_ := (Option.bind_some _ _).symm.trans H; rw [hy232]; with_reducible exact H2_) | (have H2_ := (Option.bind_some _ _).symm.trans H; with_reducible exact H2_) | with_reducible exact H | (rw [hy232]; exact H) | exact H
           have Ny232 := Aside0.mk hy232
           clear hy232
           by_cases c27 : y229.length + y232.length < 2932031007402
           ·
            rw [if_pos c27] at H
            have LMc27 := Aside0.mk c27
            clear c27
            obtain ⟨y235, hy235⟩ : ∃ y_ : List (S32), y_ = (y229 ++ y232) := ⟨_, rfl⟩
            replace H : ((term_Check.f kj15 y235).bind fun bt238 => (if t218 = 0 then (if bt238.1 = 0 then (if bt238.2 = 0 then (some true) else (some false)) else (some (bt238.2 == (l0.length : Int)))) else (if bt238.1 = t218 then (if bt238.2 = t219 then (some true) else (some false)) else (some false)))) = some r := by first | (rw [hy235]; with_reducible exact H) | (have H2_ := (Option.bind_some _ _).symm.trans H; rw [hy235]; with_reducible exact H2_) | (have H2_ := (Option.bind_some _ _).symm.trans H; with_reducible exact H2_) | with_reducible exact H | (rw [hy235]; exact H) | exact H
            have Ny235 := Aside0.mk hy235
            clear hy235
            replace H := Option.bind_eq_some_iff.mp H
            obtain ⟨⟨t238, t239⟩, A280, H⟩ := H
            replace H : (if t218 = 0 then (if t238 = 0 then (if t239 = 0 then (some true) else (some false)) else (some (t239 == (l0.length : Int)))) else (if t238 = t218 then (if t239 = t219 then (some true) else (some false)) else (some false))) = some r := H
            have A28 := Aside0.mk A280
            clear A280
            by_cases c29 : t218 = 0
            ·
             rw [if_pos c29] at H
             have c29b0 : (t218 == 0) = true := beq_iff_eq.mpr c29
             have c29b1 : (t218 != 0) = false := bne_eq_false_iff_eq.mpr c29
             clear c29
             by_cases c30 : t238 = 0
             ·
              rw [if_pos c30] at H
              have c30b0 : (t238 == 0) = true := beq_iff_eq.mpr c30
              have c30b1 : (t238 != 0) = false := bne_eq_false_iff_eq.mpr c30
              clear c30
              by_cases c31 : t239 = 0
              ·
               rw [if_pos c31] at H
               have c31b0 : (t239 == 0) = true := beq_iff_eq.mpr c31
               have c31b1 : (t239 != 0) = false := bne_eq_false_iff_eq.mpr c31
               clear c31
               obtain rfl := Option.some.inj H
               try go_wp2
               have n0_ := Aside0.mk (blk_drew BK216.out)
               have n1_ := Aside0.mk (below_drew1 HB.out)
               clear BK216 HB
               have BK216 := n0_
               have HB := n1_
               clear n0_ n1_
               refine start_ (n := 12) (S := fun w' => w'.cell? ⟨gb216, 0, none⟩ = some (.int .i64 a2_0) ∧ w'.cell? ⟨gb216, 1, none⟩ = some (.int .i64 a2_1) ∧ w'.cell? ⟨gb216, 2, none⟩ = some (.int .u64 a2_2) ∧ w'.cell? ⟨gb216, 3, none⟩ = some (.int .i64 a2_3) ∧ w'.cell? ⟨gb216, 4, none⟩ = some (.int .i64 a2_4) ∧ w'.cell? ⟨gb216, 5, none⟩ = some (.int .i64 a2_5)) (ds := []) #[false, false, false, false, false, false, false, false, false, false, false, false] (by kernel_rfl) rfl rfl ⟨(blk_cell BK216.out 0).trans rfl, (blk_cell BK216.out 1).trans rfl, (blk_cell BK216.out 2).trans rfl, (blk_cell BK216.out 3).trans rfl, (blk_cell BK216.out 4).trans rfl, (blk_cell BK216.out 5).trans rfl⟩ (fun hHeld => ?_); refine with_tabW backreachlaw06_TermParts.tab9 backreachlaw06_TermParts.bits9 (fun HT_ HW_ => ?_)
               generalize wc.drew = w32 at BK216 HB hHeld ⊢
               refine pure_ (i := 1) (N := some 66) (v := ?_) (a' := ?_) #[false, true, false, false, false, false, false, false, false, false, false, false] rfl rfl (any_of HT_.out (by kernel_rfl)) (fun _ _ _ h => h) (Or.inl ⟨by rfl, ?_⟩) ?_ ?_
               rotate_left
               ·
                intro w'
                go_simp
                with_reducible rfl
               rotate_left
               ·
                simp only [Act.put, List.setIfInBounds_toArray, List.set_cons_zero, List.set_cons_succ, i64_w, i32_w]
                rfl
               refine take_ (i := 3) (N := some 68) (v := ?_) (a' := ?_) #[false, true, false, true, false, false, false, false, false, false, false, false] rfl rfl (take_ofW HT_.out HW_.out (by kernel_rfl)) (fun _ _ _ h => h) (Or.inl ⟨by rfl, ?_⟩) hHeld ?_ ?_
               rotate_left
               ·
                rintro w' ⟨s0, s1, s2, s3, s4, s5⟩
                go_simp
                with_reducible rfl
               rotate_left
               ·
                simp only [Act.put, List.setIfInBounds_toArray, List.set_cons_zero, List.set_cons_succ, i64_w, i32_w]
                rfl
               refine join_ (σ := Value × Value × Value) 7 #[true, true, true, true, true, false, false, false, false, false, false, false] (fun s_ => [(65, s_.1), (67, s_.2.1), (69, s_.2.2)]) (fun s_ w' => (w'.cell? ⟨gb216, 0, none⟩ = some (.int .i64 a2_0) ∧ w'.cell? ⟨gb216, 1, none⟩ = some (.int .i64 a2_1) ∧ w'.cell? ⟨gb216, 2, none⟩ = some (.int .u64 a2_2) ∧ w'.cell? ⟨gb216, 3, none⟩ = some (.int .i64 a2_3) ∧ w'.cell? ⟨gb216, 4, none⟩ = some (.int .i64 a2_4) ∧ w'.cell? ⟨gb216, 5, none⟩ = some (.int .i64 a2_5)) ∧ (Kd.R k32 32 w' w.heap.size (fun k_ => some k_ ≠ (s_.2.2 : Value).ownBlock ∧ k_ ≠ gb216) s_.2.1 y229) ∧ (Kd.R k32 32 w' w.heap.size (fun k_ => some k_ ≠ (s_.2.1 : Value).ownBlock ∧ k_ ≠ gb216) s_.2.2 y232) ∧ (w'.heap[gb216]? = some (.cells #[.int .i64 a2_0, .int .i64 a2_1, .int .u64 a2_2, .int .i64 a2_3, .int .i64 a2_4, .int .i64 a2_5] 32 (0, 0))) ∧ (Below w.heap.size w w')) ?_ ?_
               rotate_left
               ·
                intro hCont
                refine two_ (i := 0) (j := 4) (Ni := some 65) (Nj := some 69) #[true, true, false, true, false, false, false, false, false, false, false, false] #[false, true, false, true, true, false, false, false, false, false, false, false] rfl rfl rfl rfl (two_of HT_.out (by kernel_rfl)) (by decide) (by decide) (fun K hK => ?_) (fun K hK => ?_)
                ·
                 skip
                 refine Kd.R_lit_step k32 _ 32 ?hg (N := 65) ?hd (xs := ([] : List (S32))) (inner := []) (ok := fun _ => True) (okp := fun _ => True) ?hr ?hp (fun _ hk => hk) trivial (Below.refl _ _) (Nat.le_refl _) (by simp) ?_; (case hd => rfl); (case hg => rfl); (case hr => first | (go_simp; done) | (go_simp; rfl)); (case hp => exact (Reps.none _ _))
                 intro v227 w33 ho34 hb hg_ hnew_
                 clear hg_ hnew_
                 (first | rw [← Ny226.out] at ho34 | (simp only [Int.reduceToNat] at ho34; rw [← Ny226.out] at ho34))
                 have n0_ := Aside0.mk (Kd.R_lower (Kd.R_newB ho34 (g := gb216) (o := .cells #[.int .i64 a2_0, .int .i64 a2_1, .int .u64 a2_2, .int .i64 a2_3, .int .i64 a2_4, .int .i64 a2_5] 32 (0, 0)) (by (with_reducible repeat (first | refine blk_drewN ?_ _ | refine blk_drew ?_ | refine blk_alloc ?_ _)); exact BK216.out)) (below_size (by repeat (first | (with_reducible first | exact HB.out | apply below_alloc | apply pw_below_drewN | apply below_drew1 | refine below_set ?_ GE216.out) | exact HB.out))))
                 have n1_ := Aside0.mk (blk_below (g := gb216) (o := .cells #[.int .i64 a2_0, .int .i64 a2_1, .int .u64 a2_2, .int .i64 a2_3, .int .i64 a2_4, .int .i64 a2_5] 32 (0, 0)) (by (with_reducible repeat (first | refine blk_drewN ?_ _ | refine blk_drew ?_ | refine blk_alloc ?_ _)); exact BK216.out) hb)
                 have n2_ := Aside0.mk (below_step (by repeat (first | (with_reducible first | exact HB.out | apply below_alloc | apply pw_below_drewN | apply below_drew1 | refine below_set ?_ GE216.out) | exact HB.out)) hb)
                 clear BK216 HB
                 have HO228 := n0_
                 have BK216 := n1_
                 have HB := n2_
                 clear n0_ n1_ n2_ hb ho34
                 refine hK.out _ _ ⟨(blk_cell BK216.out 0).trans rfl, (blk_cell BK216.out 1).trans rfl, (blk_cell BK216.out 2).trans rfl, (blk_cell BK216.out 3).trans rfl, (blk_cell BK216.out 4).trans rfl, (blk_cell BK216.out 5).trans rfl⟩ (fun hHeld => ?_)
                 clear hK K
                 refine norm_ (a' := ?_) ?_ ?_
                 rotate_left
                 ·
                  show Act.put _ (some 65) _ = _
                  simp only [Act.put, List.setIfInBounds_toArray, List.set_cons_zero, List.set_cons_succ, i64_w, i32_w]
                  rfl
                 refine two_ (i := 2) (j := 4) (Ni := some 67) (Nj := some 69) #[true, true, true, true, false, false, false, false, false, false, false, false] #[true, true, false, true, true, false, false, false, false, false, false, false] rfl rfl rfl rfl (two_of HT_.out (by kernel_rfl)) (by decide) (by decide) (fun K hK => ?_) (fun K hK => ?_)
                 ·
                  skip
                  refine Kd.R_append_rows_step k32 (w0 := w) w.heap.size (by rfl) (.tmp 65) (.tmp 66) 22 32 (.agg #[(.int .i64 0), (.int .i64 0), (.int .u64 0), (.int .i64 0), (.int .i64 0), (.int .i64 0)]) 48 rfl Try.underlying22 info32 rfl (by decide) (by omega) v227 y226 l0 _ _ _ (fun k_ => k_ ≠ gb216) (fun _ => False) rfl rfl ?aO ?aR (fun _ _ h => h) (fun _ h => h.elim) ?aF ?aB ?aS ?aL ?_
                  (case aR => repeat (first | exact (Kd.C_below HR0.out HB.out) | (with_reducible refine Kd.C_alloc ?_ _) | (with_reducible refine Kd.C_drewN ?_ _) | (with_reducible refine Kd.C_drew ?_)))
                  (case aB => exact (by repeat (first | (with_reducible first | exact HB.out | apply below_alloc | apply pw_below_drewN | apply below_drew1 | refine below_set ?_ GE216.out) | exact HB.out)))
                  (case aF => exact (fun k_ hk => Kd.freshB (g := gb216) (o := .cells #[.int .i64 a2_0, .int .i64 a2_1, .int .u64 a2_2, .int .i64 a2_3, .int .i64 a2_4, .int .i64 a2_5] 32 (0, 0)) (by (with_reducible repeat (first | refine blk_drewN ?_ _ | refine blk_drew ?_ | refine blk_alloc ?_ _)); exact BK216.out) k_ hk))
                  (case aO => exact (by (with_reducible repeat (first | apply Kd.R_alloc | apply Kd.R_drewN | apply Kd.R_drew)); exact Kd.R_mono HO228.out (fun _ hk => hk.2)))
                  (case aS => exact (below_size (by repeat (first | (with_reducible first | exact HB.out | apply below_alloc | apply pw_below_drewN | apply below_drew1 | refine below_set ?_ GE216.out) | exact HB.out))))
                  (case aL => have := LMc26.out; omega)
                  intro v230 w35 ho hb hg hat
                  rw [← Ny229.out] at ho
                  have n0_ := Aside0.mk (blk_grown (g := gb216) (o := .cells #[.int .i64 a2_0, .int .i64 a2_1, .int .u64 a2_2, .int .i64 a2_3, .int .i64 a2_4, .int .i64 a2_5] 32 (0, 0)) (by (with_reducible repeat (first | refine blk_drewN ?_ _ | refine blk_drew ?_ | refine blk_alloc ?_ _)); exact BK216.out) hg (Kd.R_away HO228.out (fun _ hk => hk.2)))
                  have n1_ := Aside0.mk (hb)
                  have n2_ := Aside0.mk (ho)
                  clear BK216 HB HO228
                  have BK216 := n0_
                  have HB := n1_
                  have HO231 := n2_
                  clear n0_ n1_ n2_ ho hb hg hat
                  refine hK.out _ _ ⟨(blk_cell BK216.out 0).trans rfl, (blk_cell BK216.out 1).trans rfl, (blk_cell BK216.out 2).trans rfl, (blk_cell BK216.out 3).trans rfl, (blk_cell BK216.out 4).trans rfl, (blk_cell BK216.out 5).trans rfl⟩ (fun hHeld => ?_)
                  clear hK K
                  refine norm_ (a' := ?_) ?_ ?_
                  rotate_left
                  ·
                   show Act.put _ (some 67) _ = _
                   simp only [Act.put, List.setIfInBounds_toArray, List.set_cons_zero, List.set_cons_succ, i64_w, i32_w]
                   rfl
                  refine one_ (i := 4) (N := some 69) #[true, true, true, true, true, false, false, false, false, false, false, false] rfl rfl (one_of HT_.out (by kernel_rfl)) (by decide) (fun K hK => ?_)
                  refine Kd.R_lit_step k32 _ 32 ?hg (N := 69) ?hd (xs := ([(⟨a2_0, a2_1, a2_2, (⟨a2_3, a2_4, a2_5⟩ : S30)⟩ : S32)] : List (S32))) (inner := [.int .i64 a2_0, .int .i64 a2_1, .int .u64 a2_2, .int .i64 a2_3, .int .i64 a2_4, .int .i64 a2_5]) (ok := fun _ => True) (okp := fun _ => True) ?hr ?hp (fun _ hk => hk) trivial (Below.refl _ _) (Nat.le_refl _) (by simp) ?_; (case hd => rfl); (case hg => rfl); (case hr => first | (go_simp; done) | (go_simp; rfl)); (case hp => exact (Reps.c6 (show Kd.M k32 _ _ _ (⟨a2_0, a2_1, a2_2, (⟨a2_3, a2_4, a2_5⟩ : S30)⟩ : S32) [.int .i64 a2_0, .int .i64 a2_1, .int .u64 a2_2, .int .i64 a2_3, .int .i64 a2_4, .int .i64 a2_5] from (k32_mkM _ _ _ (⟨a2_0, a2_1, a2_2, (⟨a2_3, a2_4, a2_5⟩ : S30)⟩ : S32) )) (Reps.none _ _)))
                  intro v233 w36 ho37 hb hg_ hnew_
                  clear hg_ hnew_
                  (first | rw [← Ny232.out] at ho37 | (simp only [Int.reduceToNat] at ho37; rw [← Ny232.out] at ho37))
                  have n0_ := Aside0.mk (Kd.R_elder' (by (with_reducible repeat (first | apply Kd.R_alloc | apply Kd.R_drewN | apply Kd.R_drew)); exact HO231.out) (Kd.R_base ho37) hb)
                  have n1_ := Aside0.mk (Kd.R_lower (Kd.R_newB (Kd.R_new' ho37 (Kd.R_lt (by (with_reducible repeat (first | apply Kd.R_alloc | apply Kd.R_drewN | apply Kd.R_drew)); exact HO231.out))) (g := gb216) (o := .cells #[.int .i64 a2_0, .int .i64 a2_1, .int .u64 a2_2, .int .i64 a2_3, .int .i64 a2_4, .int .i64 a2_5] 32 (0, 0)) (by (with_reducible repeat (first | refine blk_drewN ?_ _ | refine blk_drew ?_ | refine blk_alloc ?_ _)); exact BK216.out)) (below_size (by repeat (first | (with_reducible first | exact HB.out | apply below_alloc | apply pw_below_drewN | apply below_drew1 | refine below_set ?_ GE216.out) | exact HB.out))))
                  have n2_ := Aside0.mk (blk_below (g := gb216) (o := .cells #[.int .i64 a2_0, .int .i64 a2_1, .int .u64 a2_2, .int .i64 a2_3, .int .i64 a2_4, .int .i64 a2_5] 32 (0, 0)) (by (with_reducible repeat (first | refine blk_drewN ?_ _ | refine blk_drew ?_ | refine blk_alloc ?_ _)); exact BK216.out) hb)
                  have n3_ := Aside0.mk (below_step (by repeat (first | (with_reducible first | exact HB.out | apply below_alloc | apply pw_below_drewN | apply below_drew1 | refine below_set ?_ GE216.out) | exact HB.out)) hb)
                  clear HO231 BK216 HB
                  have HO231 := n0_
                  have HO234 := n1_
                  have BK216 := n2_
                  have HB := n3_
                  clear n0_ n1_ n2_ n3_ hb ho37
                  refine hK.out _ _ ⟨(blk_cell BK216.out 0).trans rfl, (blk_cell BK216.out 1).trans rfl, (blk_cell BK216.out 2).trans rfl, (blk_cell BK216.out 3).trans rfl, (blk_cell BK216.out 4).trans rfl, (blk_cell BK216.out 5).trans rfl⟩ (fun hHeld => ?_)
                  clear hK K
                  refine norm_ (a' := ?_) ?_ ?_
                  rotate_left
                  ·
                   show Act.put _ (some 69) _ = _
                   simp only [Act.put, List.setIfInBounds_toArray, List.set_cons_zero, List.set_cons_succ, i64_w, i32_w]
                   rfl
                  exact norm_ (by simp only [putAll, Act.put, List.setIfInBounds_toArray, List.set_cons_zero, List.set_cons_succ]) (hCont (v227, v230, v233) _ ⟨hHeld, (by (with_reducible repeat (first | apply Kd.R_alloc | apply Kd.R_drewN | apply Kd.R_drew)); exact Kd.R_mono HO231.out (fun _ hk => ⟨hk.2, hk.1⟩)), (by (with_reducible repeat (first | apply Kd.R_alloc | apply Kd.R_drewN | apply Kd.R_drew)); exact Kd.R_mono HO234.out (fun _ hk => ⟨hk.1.2, hk.2⟩)), (by (with_reducible repeat (first | refine blk_drewN ?_ _ | refine blk_drew ?_ | refine blk_alloc ?_ _)); exact BK216.out), (by repeat (first | (with_reducible first | exact HB.out | apply below_alloc | apply pw_below_drewN | apply below_drew1 | refine below_set ?_ GE216.out) | exact HB.out))⟩)
                 ·
                  skip
                  refine Kd.R_lit_step k32 _ 32 ?hg (N := 69) ?hd (xs := ([(⟨a2_0, a2_1, a2_2, (⟨a2_3, a2_4, a2_5⟩ : S30)⟩ : S32)] : List (S32))) (inner := [.int .i64 a2_0, .int .i64 a2_1, .int .u64 a2_2, .int .i64 a2_3, .int .i64 a2_4, .int .i64 a2_5]) (ok := fun _ => True) (okp := fun _ => True) ?hr ?hp (fun _ hk => hk) trivial (Below.refl _ _) (Nat.le_refl _) (by simp) ?_; (case hd => rfl); (case hg => rfl); (case hr => first | (go_simp; done) | (go_simp; rfl)); (case hp => exact (Reps.c6 (show Kd.M k32 _ _ _ (⟨a2_0, a2_1, a2_2, (⟨a2_3, a2_4, a2_5⟩ : S30)⟩ : S32) [.int .i64 a2_0, .int .i64 a2_1, .int .u64 a2_2, .int .i64 a2_3, .int .i64 a2_4, .int .i64 a2_5] from (k32_mkM _ _ _ (⟨a2_0, a2_1, a2_2, (⟨a2_3, a2_4, a2_5⟩ : S30)⟩ : S32) )) (Reps.none _ _)))
                  intro v233 w35 ho36 hb hg_ hnew_
                  clear hg_ hnew_
                  (first | rw [← Ny232.out] at ho36 | (simp only [Int.reduceToNat] at ho36; rw [← Ny232.out] at ho36))
                  have n0_ := Aside0.mk (Kd.R_elder' (by (with_reducible repeat (first | apply Kd.R_alloc | apply Kd.R_drewN | apply Kd.R_drew)); exact HO228.out) (Kd.R_base ho36) hb)
                  have n1_ := Aside0.mk (Kd.R_lower (Kd.R_newB (Kd.R_new' ho36 (Kd.R_lt (by (with_reducible repeat (first | apply Kd.R_alloc | apply Kd.R_drewN | apply Kd.R_drew)); exact HO228.out))) (g := gb216) (o := .cells #[.int .i64 a2_0, .int .i64 a2_1, .int .u64 a2_2, .int .i64 a2_3, .int .i64 a2_4, .int .i64 a2_5] 32 (0, 0)) (by (with_reducible repeat (first | refine blk_drewN ?_ _ | refine blk_drew ?_ | refine blk_alloc ?_ _)); exact BK216.out)) (below_size (by repeat (first | (with_reducible first | exact HB.out | apply below_alloc | apply pw_below_drewN | apply below_drew1 | refine below_set ?_ GE216.out) | exact HB.out))))
                  have n2_ := Aside0.mk (blk_below (g := gb216) (o := .cells #[.int .i64 a2_0, .int .i64 a2_1, .int .u64 a2_2, .int .i64 a2_3, .int .i64 a2_4, .int .i64 a2_5] 32 (0, 0)) (by (with_reducible repeat (first | refine blk_drewN ?_ _ | refine blk_drew ?_ | refine blk_alloc ?_ _)); exact BK216.out) hb)
                  have n3_ := Aside0.mk (below_step (by repeat (first | (with_reducible first | exact HB.out | apply below_alloc | apply pw_below_drewN | apply below_drew1 | refine below_set ?_ GE216.out) | exact HB.out)) hb)
                  clear HO228 BK216 HB
                  have HO228 := n0_
                  have HO234 := n1_
                  have BK216 := n2_
                  have HB := n3_
                  clear n0_ n1_ n2_ n3_ hb ho36
                  refine hK.out _ _ ⟨(blk_cell BK216.out 0).trans rfl, (blk_cell BK216.out 1).trans rfl, (blk_cell BK216.out 2).trans rfl, (blk_cell BK216.out 3).trans rfl, (blk_cell BK216.out 4).trans rfl, (blk_cell BK216.out 5).trans rfl⟩ (fun hHeld => ?_)
                  clear hK K
                  refine norm_ (a' := ?_) ?_ ?_
                  rotate_left
                  ·
                   show Act.put _ (some 69) _ = _
                   simp only [Act.put, List.setIfInBounds_toArray, List.set_cons_zero, List.set_cons_succ, i64_w, i32_w]
                   rfl
                  refine one_ (i := 2) (N := some 67) #[true, true, true, true, true, false, false, false, false, false, false, false] rfl rfl (one_of HT_.out (by kernel_rfl)) (by decide) (fun K hK => ?_)
                  refine Kd.R_append_rows_step k32 (w0 := w) w.heap.size (by rfl) (.tmp 65) (.tmp 66) 22 32 (.agg #[(.int .i64 0), (.int .i64 0), (.int .u64 0), (.int .i64 0), (.int .i64 0), (.int .i64 0)]) 48 rfl Try.underlying22 info32 rfl (by decide) (by omega) v227 y226 l0 _ _ _ (fun k_ => some k_ ≠ (v233 : Value).ownBlock ∧ k_ ≠ gb216) (fun _ => False) rfl rfl ?aO ?aR (fun _ _ h => h) (fun _ h => h.elim) ?aF ?aB ?aS ?aL ?_
                  (case aR => repeat (first | exact (Kd.C_below HR0.out HB.out) | (with_reducible refine Kd.C_alloc ?_ _) | (with_reducible refine Kd.C_drewN ?_ _) | (with_reducible refine Kd.C_drew ?_)))
                  (case aB => exact (by repeat (first | (with_reducible first | exact HB.out | apply below_alloc | apply pw_below_drewN | apply below_drew1 | refine below_set ?_ GE216.out) | exact HB.out)))
                  (case aF => exact (fun k_ hk => ⟨Kd.fresh' (Kd.R_lt (by (with_reducible repeat (first | apply Kd.R_alloc | apply Kd.R_drewN | apply Kd.R_drew)); exact HO234.out)) k_ hk, Kd.freshB (g := gb216) (o := .cells #[.int .i64 a2_0, .int .i64 a2_1, .int .u64 a2_2, .int .i64 a2_3, .int .i64 a2_4, .int .i64 a2_5] 32 (0, 0)) (by (with_reducible repeat (first | refine blk_drewN ?_ _ | refine blk_drew ?_ | refine blk_alloc ?_ _)); exact BK216.out) k_ hk⟩))
                  (case aO => exact (by (with_reducible repeat (first | apply Kd.R_alloc | apply Kd.R_drewN | apply Kd.R_drew)); exact Kd.R_mono HO228.out (fun _ hk => ⟨hk.2, hk.1.2⟩)))
                  (case aS => exact (below_size (by repeat (first | (with_reducible first | exact HB.out | apply below_alloc | apply pw_below_drewN | apply below_drew1 | refine below_set ?_ GE216.out) | exact HB.out))))
                  (case aL => have := LMc26.out; omega)
                  intro v230 w37 ho hb hg hat
                  rw [← Ny229.out] at ho
                  have n0_ := Aside0.mk (blk_grown (g := gb216) (o := .cells #[.int .i64 a2_0, .int .i64 a2_1, .int .u64 a2_2, .int .i64 a2_3, .int .i64 a2_4, .int .i64 a2_5] 32 (0, 0)) (by (with_reducible repeat (first | refine blk_drewN ?_ _ | refine blk_drew ?_ | refine blk_alloc ?_ _)); exact BK216.out) hg (Kd.R_away HO228.out (fun _ hk => hk.1.2)))
                  have n1_ := Aside0.mk (Kd.R_after (ok := (fun k_ => k_ ≠ gb216)) (by (with_reducible repeat (first | apply Kd.R_alloc | apply Kd.R_drewN | apply Kd.R_drew)); exact Kd.R_mono HO234.out (fun _ hk => ⟨hk.2, hk.1.2⟩)) hg hat)
                  have n2_ := Aside0.mk (hb)
                  have n3_ := Aside0.mk (ho)
                  clear BK216 HO234 HB HO228
                  have BK216 := n0_
                  have HO234 := n1_
                  have HB := n2_
                  have HO231 := n3_
                  clear n0_ n1_ n2_ n3_ ho hb hg hat
                  refine hK.out _ _ ⟨(blk_cell BK216.out 0).trans rfl, (blk_cell BK216.out 1).trans rfl, (blk_cell BK216.out 2).trans rfl, (blk_cell BK216.out 3).trans rfl, (blk_cell BK216.out 4).trans rfl, (blk_cell BK216.out 5).trans rfl⟩ (fun hHeld => ?_)
                  clear hK K
                  refine norm_ (a' := ?_) ?_ ?_
                  rotate_left
                  ·
                   show Act.put _ (some 67) _ = _
                   simp only [Act.put, List.setIfInBounds_toArray, List.set_cons_zero, List.set_cons_succ, i64_w, i32_w]
                   rfl
                  exact norm_ (by simp only [putAll, Act.put, List.setIfInBounds_toArray, List.set_cons_zero, List.set_cons_succ]) (hCont (v227, v230, v233) _ ⟨hHeld, (by (with_reducible repeat (first | apply Kd.R_alloc | apply Kd.R_drewN | apply Kd.R_drew)); exact HO231.out), (by (with_reducible repeat (first | apply Kd.R_alloc | apply Kd.R_drewN | apply Kd.R_drew)); exact Kd.R_mono HO234.out (fun _ hk => ⟨hk.2, hk.1⟩)), (by (with_reducible repeat (first | refine blk_drewN ?_ _ | refine blk_drew ?_ | refine blk_alloc ?_ _)); exact BK216.out), (by repeat (first | (with_reducible first | exact HB.out | apply below_alloc | apply pw_below_drewN | apply below_drew1 | refine below_set ?_ GE216.out) | exact HB.out))⟩)
                ·
                 skip
                 refine Kd.R_lit_step k32 _ 32 ?hg (N := 69) ?hd (xs := ([(⟨a2_0, a2_1, a2_2, (⟨a2_3, a2_4, a2_5⟩ : S30)⟩ : S32)] : List (S32))) (inner := [.int .i64 a2_0, .int .i64 a2_1, .int .u64 a2_2, .int .i64 a2_3, .int .i64 a2_4, .int .i64 a2_5]) (ok := fun _ => True) (okp := fun _ => True) ?hr ?hp (fun _ hk => hk) trivial (Below.refl _ _) (Nat.le_refl _) (by simp) ?_; (case hd => rfl); (case hg => rfl); (case hr => first | (go_simp; done) | (go_simp; rfl)); (case hp => exact (Reps.c6 (show Kd.M k32 _ _ _ (⟨a2_0, a2_1, a2_2, (⟨a2_3, a2_4, a2_5⟩ : S30)⟩ : S32) [.int .i64 a2_0, .int .i64 a2_1, .int .u64 a2_2, .int .i64 a2_3, .int .i64 a2_4, .int .i64 a2_5] from (k32_mkM _ _ _ (⟨a2_0, a2_1, a2_2, (⟨a2_3, a2_4, a2_5⟩ : S30)⟩ : S32) )) (Reps.none _ _)))
                 intro v233 w33 ho34 hb hg_ hnew_
                 clear hg_ hnew_
                 (first | rw [← Ny232.out] at ho34 | (simp only [Int.reduceToNat] at ho34; rw [← Ny232.out] at ho34))
                 have n0_ := Aside0.mk (Kd.R_lower (Kd.R_newB ho34 (g := gb216) (o := .cells #[.int .i64 a2_0, .int .i64 a2_1, .int .u64 a2_2, .int .i64 a2_3, .int .i64 a2_4, .int .i64 a2_5] 32 (0, 0)) (by (with_reducible repeat (first | refine blk_drewN ?_ _ | refine blk_drew ?_ | refine blk_alloc ?_ _)); exact BK216.out)) (below_size (by repeat (first | (with_reducible first | exact HB.out | apply below_alloc | apply pw_below_drewN | apply below_drew1 | refine below_set ?_ GE216.out) | exact HB.out))))
                 have n1_ := Aside0.mk (blk_below (g := gb216) (o := .cells #[.int .i64 a2_0, .int .i64 a2_1, .int .u64 a2_2, .int .i64 a2_3, .int .i64 a2_4, .int .i64 a2_5] 32 (0, 0)) (by (with_reducible repeat (first | refine blk_drewN ?_ _ | refine blk_drew ?_ | refine blk_alloc ?_ _)); exact BK216.out) hb)
                 have n2_ := Aside0.mk (below_step (by repeat (first | (with_reducible first | exact HB.out | apply below_alloc | apply pw_below_drewN | apply below_drew1 | refine below_set ?_ GE216.out) | exact HB.out)) hb)
                 clear BK216 HB
                 have HO234 := n0_
                 have BK216 := n1_
                 have HB := n2_
                 clear n0_ n1_ n2_ hb ho34
                 refine hK.out _ _ ⟨(blk_cell BK216.out 0).trans rfl, (blk_cell BK216.out 1).trans rfl, (blk_cell BK216.out 2).trans rfl, (blk_cell BK216.out 3).trans rfl, (blk_cell BK216.out 4).trans rfl, (blk_cell BK216.out 5).trans rfl⟩ (fun hHeld => ?_)
                 clear hK K
                 refine norm_ (a' := ?_) ?_ ?_
                 rotate_left
                 ·
                  show Act.put _ (some 69) _ = _
                  simp only [Act.put, List.setIfInBounds_toArray, List.set_cons_zero, List.set_cons_succ, i64_w, i32_w]
                  rfl
                 refine one_ (i := 0) (N := some 65) #[true, true, false, true, true, false, false, false, false, false, false, false] rfl rfl (one_of HT_.out (by kernel_rfl)) (by decide) (fun K hK => ?_)
                 refine Kd.R_lit_step k32 _ 32 ?hg (N := 65) ?hd (xs := ([] : List (S32))) (inner := []) (ok := fun _ => True) (okp := fun _ => True) ?hr ?hp (fun _ hk => hk) trivial (Below.refl _ _) (Nat.le_refl _) (by simp) ?_; (case hd => rfl); (case hg => rfl); (case hr => first | (go_simp; done) | (go_simp; rfl)); (case hp => exact (Reps.none _ _))
                 intro v227 w35 ho36 hb hg_ hnew_
                 clear hg_ hnew_
                 (first | rw [← Ny226.out] at ho36 | (simp only [Int.reduceToNat] at ho36; rw [← Ny226.out] at ho36))
                 have n0_ := Aside0.mk (Kd.R_elder' (by (with_reducible repeat (first | apply Kd.R_alloc | apply Kd.R_drewN | apply Kd.R_drew)); exact HO234.out) (Kd.R_base ho36) hb)
                 have n1_ := Aside0.mk (Kd.R_lower (Kd.R_newB (Kd.R_new' ho36 (Kd.R_lt (by (with_reducible repeat (first | apply Kd.R_alloc | apply Kd.R_drewN | apply Kd.R_drew)); exact HO234.out))) (g := gb216) (o := .cells #[.int .i64 a2_0, .int .i64 a2_1, .int .u64 a2_2, .int .i64 a2_3, .int .i64 a2_4, .int .i64 a2_5] 32 (0, 0)) (by (with_reducible repeat (first | refine blk_drewN ?_ _ | refine blk_drew ?_ | refine blk_alloc ?_ _)); exact BK216.out)) (below_size (by repeat (first | (with_reducible first | exact HB.out | apply below_alloc | apply pw_below_drewN | apply below_drew1 | refine below_set ?_ GE216.out) | exact HB.out))))
                 have n2_ := Aside0.mk (blk_below (g := gb216) (o := .cells #[.int .i64 a2_0, .int .i64 a2_1, .int .u64 a2_2, .int .i64 a2_3, .int .i64 a2_4, .int .i64 a2_5] 32 (0, 0)) (by (with_reducible repeat (first | refine blk_drewN ?_ _ | refine blk_drew ?_ | refine blk_alloc ?_ _)); exact BK216.out) hb)
                 have n3_ := Aside0.mk (below_step (by repeat (first | (with_reducible first | exact HB.out | apply below_alloc | apply pw_below_drewN | apply below_drew1 | refine below_set ?_ GE216.out) | exact HB.out)) hb)
                 clear HO234 BK216 HB
                 have HO234 := n0_
                 have HO228 := n1_
                 have BK216 := n2_
                 have HB := n3_
                 clear n0_ n1_ n2_ n3_ hb ho36
                 refine hK.out _ _ ⟨(blk_cell BK216.out 0).trans rfl, (blk_cell BK216.out 1).trans rfl, (blk_cell BK216.out 2).trans rfl, (blk_cell BK216.out 3).trans rfl, (blk_cell BK216.out 4).trans rfl, (blk_cell BK216.out 5).trans rfl⟩ (fun hHeld => ?_)
                 clear hK K
                 refine norm_ (a' := ?_) ?_ ?_
                 rotate_left
                 ·
                  show Act.put _ (some 65) _ = _
                  simp only [Act.put, List.setIfInBounds_toArray, List.set_cons_zero, List.set_cons_succ, i64_w, i32_w]
                  rfl
                 refine one_ (i := 2) (N := some 67) #[true, true, true, true, true, false, false, false, false, false, false, false] rfl rfl (one_of HT_.out (by kernel_rfl)) (by decide) (fun K hK => ?_)
                 refine Kd.R_append_rows_step k32 (w0 := w) w.heap.size (by rfl) (.tmp 65) (.tmp 66) 22 32 (.agg #[(.int .i64 0), (.int .i64 0), (.int .u64 0), (.int .i64 0), (.int .i64 0), (.int .i64 0)]) 48 rfl Try.underlying22 info32 rfl (by decide) (by omega) v227 y226 l0 _ _ _ (fun k_ => some k_ ≠ (v233 : Value).ownBlock ∧ k_ ≠ gb216) (fun _ => False) rfl rfl ?aO ?aR (fun _ _ h => h) (fun _ h => h.elim) ?aF ?aB ?aS ?aL ?_
                 (case aR => repeat (first | exact (Kd.C_below HR0.out HB.out) | (with_reducible refine Kd.C_alloc ?_ _) | (with_reducible refine Kd.C_drewN ?_ _) | (with_reducible refine Kd.C_drew ?_)))
                 (case aB => exact (by repeat (first | (with_reducible first | exact HB.out | apply below_alloc | apply pw_below_drewN | apply below_drew1 | refine below_set ?_ GE216.out) | exact HB.out)))
                 (case aF => exact (fun k_ hk => ⟨Kd.fresh' (Kd.R_lt (by (with_reducible repeat (first | apply Kd.R_alloc | apply Kd.R_drewN | apply Kd.R_drew)); exact HO234.out)) k_ hk, Kd.freshB (g := gb216) (o := .cells #[.int .i64 a2_0, .int .i64 a2_1, .int .u64 a2_2, .int .i64 a2_3, .int .i64 a2_4, .int .i64 a2_5] 32 (0, 0)) (by (with_reducible repeat (first | refine blk_drewN ?_ _ | refine blk_drew ?_ | refine blk_alloc ?_ _)); exact BK216.out) k_ hk⟩))
                 (case aO => exact (by (with_reducible repeat (first | apply Kd.R_alloc | apply Kd.R_drewN | apply Kd.R_drew)); exact Kd.R_mono HO228.out (fun _ hk => ⟨hk.1.2, hk.2⟩)))
                 (case aS => exact (below_size (by repeat (first | (with_reducible first | exact HB.out | apply below_alloc | apply pw_below_drewN | apply below_drew1 | refine below_set ?_ GE216.out) | exact HB.out))))
                 (case aL => have := LMc26.out; omega)
                 intro v230 w37 ho hb hg hat
                 rw [← Ny229.out] at ho
                 have n0_ := Aside0.mk (blk_grown (g := gb216) (o := .cells #[.int .i64 a2_0, .int .i64 a2_1, .int .u64 a2_2, .int .i64 a2_3, .int .i64 a2_4, .int .i64 a2_5] 32 (0, 0)) (by (with_reducible repeat (first | refine blk_drewN ?_ _ | refine blk_drew ?_ | refine blk_alloc ?_ _)); exact BK216.out) hg (Kd.R_away HO228.out (fun _ hk => hk.2)))
                 have n1_ := Aside0.mk (Kd.R_after (ok := (fun k_ => k_ ≠ gb216)) (by (with_reducible repeat (first | apply Kd.R_alloc | apply Kd.R_drewN | apply Kd.R_drew)); exact Kd.R_mono HO234.out (fun _ hk => ⟨hk.1.2, hk.2⟩)) hg hat)
                 have n2_ := Aside0.mk (hb)
                 have n3_ := Aside0.mk (ho)
                 clear BK216 HO234 HB HO228
                 have BK216 := n0_
                 have HO234 := n1_
                 have HB := n2_
                 have HO231 := n3_
                 clear n0_ n1_ n2_ n3_ ho hb hg hat
                 refine hK.out _ _ ⟨(blk_cell BK216.out 0).trans rfl, (blk_cell BK216.out 1).trans rfl, (blk_cell BK216.out 2).trans rfl, (blk_cell BK216.out 3).trans rfl, (blk_cell BK216.out 4).trans rfl, (blk_cell BK216.out 5).trans rfl⟩ (fun hHeld => ?_)
                 clear hK K
                 refine norm_ (a' := ?_) ?_ ?_
                 rotate_left
                 ·
                  show Act.put _ (some 67) _ = _
                  simp only [Act.put, List.setIfInBounds_toArray, List.set_cons_zero, List.set_cons_succ, i64_w, i32_w]
                  rfl
                 exact norm_ (by simp only [putAll, Act.put, List.setIfInBounds_toArray, List.set_cons_zero, List.set_cons_succ]) (hCont (v227, v230, v233) _ ⟨hHeld, (by (with_reducible repeat (first | apply Kd.R_alloc | apply Kd.R_drewN | apply Kd.R_drew)); exact HO231.out), (by (with_reducible repeat (first | apply Kd.R_alloc | apply Kd.R_drewN | apply Kd.R_drew)); exact Kd.R_mono HO234.out (fun _ hk => ⟨hk.2, hk.1⟩)), (by (with_reducible repeat (first | refine blk_drewN ?_ _ | refine blk_drew ?_ | refine blk_alloc ?_ _)); exact BK216.out), (by repeat (first | (with_reducible first | exact HB.out | apply below_alloc | apply pw_below_drewN | apply below_drew1 | refine below_set ?_ GE216.out) | exact HB.out))⟩)
               rintro ⟨v227, v230, v233⟩ w38 ⟨hS_, h0_, h1_, h2_, h3_⟩
               have n0_ : Aside0 (Kd.R k32 32 w38 w.heap.size (fun k_ => some k_ ≠ (v233 : Value).ownBlock ∧ k_ ≠ gb216) v230 y229) := ⟨h0_⟩
               have n1_ : Aside0 (Kd.R k32 32 w38 w.heap.size (fun k_ => some k_ ≠ (v230 : Value).ownBlock ∧ k_ ≠ gb216) v233 y232) := ⟨h1_⟩
               have n2_ : Aside0 (w38.heap[gb216]? = some (.cells #[.int .i64 a2_0, .int .i64 a2_1, .int .u64 a2_2, .int .i64 a2_3, .int .i64 a2_4, .int .i64 a2_5] 32 (0, 0))) := ⟨h2_⟩
               have n3_ : Aside0 (Below w.heap.size w w38) := ⟨h3_⟩
               clear BK216 HB h0_ h1_ h2_ h3_
               have HO231 := n0_
               have HO234 := n1_
               have BK216 := n2_
               have HB := n3_
               clear n0_ n1_ n2_ n3_
               have hHeld : w38.cell? ⟨gb216, 0, none⟩ = some (.int .i64 a2_0) ∧ w38.cell? ⟨gb216, 1, none⟩ = some (.int .i64 a2_1) ∧ w38.cell? ⟨gb216, 2, none⟩ = some (.int .u64 a2_2) ∧ w38.cell? ⟨gb216, 3, none⟩ = some (.int .i64 a2_3) ∧ w38.cell? ⟨gb216, 4, none⟩ = some (.int .i64 a2_4) ∧ w38.cell? ⟨gb216, 5, none⟩ = some (.int .i64 a2_5) := hS_
               obtain ⟨Ao40, co40, eo40⟩ := Kd.R_slice HO234.out
               (first | subst eo40 | (injection eo40 with f1_ f2_ f3_; have f4_ := f1_.symm; have f5_ := f3_.symm; clear f1_ f2_ f3_; subst f4_; subst f5_))
               refine norm_ (a' := ?_) ?_ ?_
               rotate_left
               ·
                simp only [putAll, Act.put, List.setIfInBounds_toArray, List.set_cons_zero, List.set_cons_succ]
                rfl
               refine one_ (i := 5) (N := some 70) #[true, true, true, true, true, true, false, false, false, false, false, false] rfl rfl (one_of HT_.out (by kernel_rfl)) (by decide) (fun K hK => ?_)
               refine Kd.R_append_rows_step k32 (w0 := w) w.heap.size (by rfl) (.tmp 67) (.tmp 69) 22 32 (.agg #[(.int .i64 0), (.int .i64 0), (.int .u64 0), (.int .i64 0), (.int .i64 0), (.int .i64 0)]) 48 rfl Try.underlying22 info32 rfl (by decide) (by omega) v230 y229 y232 _ _ _ (fun k_ => some k_ ≠ (.slice Ao40 y232.length co40 : Value).ownBlock ∧ k_ ≠ gb216) (fun _ => False) rfl rfl ?aO ?aR (fun _ _ h => h) (fun _ h => h.elim) ?aF ?aB ?aS ?aL ?_
               (case aR => repeat (first | exact (Kd.R_reads' HO234.out).2.2 | (with_reducible refine Kd.C_alloc ?_ _) | (with_reducible refine Kd.C_drewN ?_ _) | (with_reducible refine Kd.C_drew ?_)))
               (case aB => exact (by repeat (first | (with_reducible first | exact HB.out | apply below_alloc | apply pw_below_drewN | apply below_drew1 | refine below_set ?_ GE216.out) | exact HB.out)))
               (case aF => exact (fun k_ hk => ⟨Kd.fresh' (Kd.R_lt (by (with_reducible repeat (first | apply Kd.R_alloc | apply Kd.R_drewN | apply Kd.R_drew)); exact HO234.out)) k_ hk, Kd.freshB (g := gb216) (o := .cells #[.int .i64 a2_0, .int .i64 a2_1, .int .u64 a2_2, .int .i64 a2_3, .int .i64 a2_4, .int .i64 a2_5] 32 (0, 0)) (by (with_reducible repeat (first | refine blk_drewN ?_ _ | refine blk_drew ?_ | refine blk_alloc ?_ _)); exact BK216.out) k_ hk⟩))
               (case aO => exact (by (with_reducible repeat (first | apply Kd.R_alloc | apply Kd.R_drewN | apply Kd.R_drew)); exact HO231.out))
               (case aS => exact (below_size (by repeat (first | (with_reducible first | exact HB.out | apply below_alloc | apply pw_below_drewN | apply below_drew1 | refine below_set ?_ GE216.out) | exact HB.out))))
               (case aL => have := LMc27.out; omega)
               intro v236 w39 ho hb hg hat
               rw [← Ny235.out] at ho
               have n0_ := Aside0.mk (blk_grown (g := gb216) (o := .cells #[.int .i64 a2_0, .int .i64 a2_1, .int .u64 a2_2, .int .i64 a2_3, .int .i64 a2_4, .int .i64 a2_5] 32 (0, 0)) (by (with_reducible repeat (first | refine blk_drewN ?_ _ | refine blk_drew ?_ | refine blk_alloc ?_ _)); exact BK216.out) hg (Kd.R_away HO231.out (fun _ hk => hk.2)))
               have n1_ := Aside0.mk (Kd.R_after (ok := (fun k_ => k_ ≠ gb216)) (by (with_reducible repeat (first | apply Kd.R_alloc | apply Kd.R_drewN | apply Kd.R_drew)); exact Kd.R_mono HO234.out (fun _ hk => ⟨hk.2, hk.1⟩)) hg hat)
               have n2_ := Aside0.mk (hb)
               have n3_ := Aside0.mk (ho)
               clear BK216 HO234 HB HO231
               have BK216 := n0_
               have HO234 := n1_
               have HB := n2_
               have HO237 := n3_
               clear n0_ n1_ n2_ n3_ ho hb hg hat
               obtain ⟨Ao41, co41, eo41⟩ := Kd.R_slice HO237.out
               (first | subst eo41 | (injection eo41 with f1_ f2_ f3_; have f4_ := f1_.symm; have f5_ := f3_.symm; clear f1_ f2_ f3_; subst f4_; subst f5_))
               refine hK.out _ _ ⟨(blk_cell BK216.out 0).trans rfl, (blk_cell BK216.out 1).trans rfl, (blk_cell BK216.out 2).trans rfl, (blk_cell BK216.out 3).trans rfl, (blk_cell BK216.out 4).trans rfl, (blk_cell BK216.out 5).trans rfl⟩ (fun hHeld => ?_)
               clear hK K
               refine norm_ (a' := ?_) ?_ ?_
               rotate_left
               ·
                show Act.put _ (some 70) _ = _
                simp only [Act.put, List.setIfInBounds_toArray, List.set_cons_zero, List.set_cons_succ, i64_w, i32_w]
                rfl
               refine one_ (i := 6) (N := some 71) #[true, true, true, true, true, true, true, false, false, false, false, false] rfl rfl (one_of HT_.out (by kernel_rfl)) (by decide) (fun K hK => ?_)
               refine goes_ Try.func19 (by kernel_rfl) rfl #[.slice Ao41 y235.length co41] (by rfl) rfl rfl (by (try simp only [List.map_toArray, List.map_cons, List.map_nil]); first | done | rfl | (simp only [List.length_drop, List.length_take]; rfl)) ?_
               with_reducible refine (term_Check.calls kj15 _ _ y235 t238 t239 _ ?side1 ?side2 A28.out).mono ?_
               (case side1 => repeat (first | exact (Kd.R_reads' HO237.out).2.2 | (with_reducible refine Kd.C_alloc ?_ _) | (with_reducible refine Kd.C_drewN ?_ _) | (with_reducible refine Kd.C_drew ?_)))
               (case side2 => exact (Kd.R_reads' HO237.out).2.1)
               rintro e w42 ⟨rfl, hb⟩
               refine ⟨_, rfl, ?_⟩
               have n0_ := Aside0.mk (Kd.R_below (by (with_reducible repeat (first | apply Kd.R_alloc | apply Kd.R_drewN | apply Kd.R_drew)); exact HO234.out) hb)
               have n1_ := Aside0.mk (Kd.R_below (by (with_reducible repeat (first | apply Kd.R_alloc | apply Kd.R_drewN | apply Kd.R_drew)); exact HO237.out) hb)
               have n2_ := Aside0.mk (blk_below (g := gb216) (o := .cells #[.int .i64 a2_0, .int .i64 a2_1, .int .u64 a2_2, .int .i64 a2_3, .int .i64 a2_4, .int .i64 a2_5] 32 (0, 0)) (by (with_reducible repeat (first | refine blk_drewN ?_ _ | refine blk_drew ?_ | refine blk_alloc ?_ _)); exact BK216.out) hb)
               have n3_ := Aside0.mk (below_step (by repeat (first | (with_reducible first | exact HB.out | apply below_alloc | apply pw_below_drewN | apply below_drew1 | refine below_set ?_ GE216.out) | exact HB.out)) hb)
               clear HO234 HO237 BK216 HB
               have HO234 := n0_
               have HO237 := n1_
               have BK216 := n2_
               have HB := n3_
               clear n0_ n1_ n2_ n3_
               (try clear hb)
               (try clear hb2)
               (try clear hk)
               (try clear hi)
               refine hK.out _ _ ⟨(blk_cell BK216.out 0).trans rfl, (blk_cell BK216.out 1).trans rfl, (blk_cell BK216.out 2).trans rfl, (blk_cell BK216.out 3).trans rfl, (blk_cell BK216.out 4).trans rfl, (blk_cell BK216.out 5).trans rfl⟩ (fun hHeld => ?_)
               clear hK K
               refine norm_ (a' := ?_) ?_ ?_
               rotate_left
               ·
                show Act.put _ (some 71) _ = _
                simp only [Act.put, List.setIfInBounds_toArray, List.set_cons_zero, List.set_cons_succ, i64_w, i32_w]
                rfl
               refine pure_ (i := 7) (N := some 64) (v := ?_) (a' := ?_) #[true, true, true, true, true, true, true, true, false, false, false, false] rfl rfl (any_of HT_.out (by kernel_rfl)) (fun _ _ _ h => h) (Or.inl ⟨by rfl, ?_⟩) ?_ ?_
               rotate_left
               ·
                intro w'
                go_simp
                with_reducible rfl
               rotate_left
               ·
                simp only [Act.put, List.setIfInBounds_toArray, List.set_cons_zero, List.set_cons_succ, i64_w, i32_w]
                rfl
               refine pure_ (i := 8) (N := some 72) (v := ?_) (a' := ?_) #[true, true, true, true, true, true, true, true, true, false, false, false] rfl rfl (any_of HT_.out (by kernel_rfl)) (fun _ _ _ h => h) (Or.inl ⟨by rfl, ?_⟩) ?_ ?_
               rotate_left
               ·
                intro w'
                go_simp
                with_reducible rfl
               rotate_left
               ·
                simp only [Act.put, List.setIfInBounds_toArray, List.set_cons_zero, List.set_cons_succ, i64_w, i32_w]
                rfl
               refine pure_ (i := 9) (N := some 73) (v := ?_) (a' := ?_) #[true, true, true, true, true, true, true, true, true, true, false, false] rfl rfl (any_of HT_.out (by kernel_rfl)) (fun _ _ _ h => h) (Or.inl ⟨by rfl, ?_⟩) ?_ ?_
               rotate_left
               ·
                intro w'
                go_simp
                with_reducible rfl
               rotate_left
               ·
                simp only [Act.put, List.setIfInBounds_toArray, List.set_cons_zero, List.set_cons_succ, i64_w, i32_w]
                rfl
               refine pure_ (i := 10) (N := some 11) (v := ?_) (a' := ?_) #[true, true, true, true, true, true, true, true, true, true, true, false] rfl rfl (any_of HT_.out (by kernel_rfl)) (fun _ _ _ h => h) (Or.inl ⟨by rfl, ?_⟩) ?_ ?_
               rotate_left
               ·
                intro w'
                go_simp
                with_reducible rfl
               rotate_left
               ·
                simp only [Act.put, List.setIfInBounds_toArray, List.set_cons_zero, List.set_cons_succ, i64_w, i32_w]
                rfl
               refine pure_ (i := 11) (N := some 12) (v := ?_) (a' := ?_) #[true, true, true, true, true, true, true, true, true, true, true, true] rfl rfl (any_of HT_.out (by kernel_rfl)) (fun _ _ _ h => h) (Or.inl ⟨by rfl, ?_⟩) ?_ ?_
               rotate_left
               ·
                intro w'
                go_simp
                with_reducible rfl
               rotate_left
               ·
                simp only [Act.put, List.setIfInBounds_toArray, List.set_cons_zero, List.set_cons_succ, i64_w, i32_w]
                rfl
               refine done_ (done_of HT_.out (by kernel_rfl)) ?_
               try go_wp2
               go_ret
               exact ⟨by first | rfl | (simp [errW_none, errW_some] <;> rfl) | (simp [*, errW_none, errW_some] <;> rfl), by repeat (first | (with_reducible first | exact HB.out | apply below_alloc | apply pw_below_drewN | apply below_drew1 | refine below_set ?_ GE216.out) | exact HB.out)⟩
              ·
               rw [if_neg c31] at H
               have c31b0 : (t239 == 0) = false := beq_eq_false_iff_ne.mpr c31
               have c31b1 : (t239 != 0) = true := bne_iff_ne.mpr c31
               obtain rfl := Option.some.inj H
               try go_wp2
               have n0_ := Aside0.mk (blk_drew BK216.out)
               have n1_ := Aside0.mk (below_drew1 HB.out)
               clear BK216 HB
               have BK216 := n0_
               have HB := n1_
               clear n0_ n1_
               refine start_ (n := 12) (S := fun w' => w'.cell? ⟨gb216, 0, none⟩ = some (.int .i64 a2_0) ∧ w'.cell? ⟨gb216, 1, none⟩ = some (.int .i64 a2_1) ∧ w'.cell? ⟨gb216, 2, none⟩ = some (.int .u64 a2_2) ∧ w'.cell? ⟨gb216, 3, none⟩ = some (.int .i64 a2_3) ∧ w'.cell? ⟨gb216, 4, none⟩ = some (.int .i64 a2_4) ∧ w'.cell? ⟨gb216, 5, none⟩ = some (.int .i64 a2_5)) (ds := []) #[false, false, false, false, false, false, false, false, false, false, false, false] (by kernel_rfl) rfl rfl ⟨(blk_cell BK216.out 0).trans rfl, (blk_cell BK216.out 1).trans rfl, (blk_cell BK216.out 2).trans rfl, (blk_cell BK216.out 3).trans rfl, (blk_cell BK216.out 4).trans rfl, (blk_cell BK216.out 5).trans rfl⟩ (fun hHeld => ?_); refine with_tabW backreachlaw06_TermParts.tab9 backreachlaw06_TermParts.bits9 (fun HT_ HW_ => ?_)
               generalize wc.drew = w43 at BK216 HB hHeld ⊢
               refine pure_ (i := 1) (N := some 66) (v := ?_) (a' := ?_) #[false, true, false, false, false, false, false, false, false, false, false, false] rfl rfl (any_of HT_.out (by kernel_rfl)) (fun _ _ _ h => h) (Or.inl ⟨by rfl, ?_⟩) ?_ ?_
               rotate_left
               ·
                intro w'
                go_simp
                with_reducible rfl
               rotate_left
               ·
                simp only [Act.put, List.setIfInBounds_toArray, List.set_cons_zero, List.set_cons_succ, i64_w, i32_w]
                rfl
               refine take_ (i := 3) (N := some 68) (v := ?_) (a' := ?_) #[false, true, false, true, false, false, false, false, false, false, false, false] rfl rfl (take_ofW HT_.out HW_.out (by kernel_rfl)) (fun _ _ _ h => h) (Or.inl ⟨by rfl, ?_⟩) hHeld ?_ ?_
               rotate_left
               ·
                rintro w' ⟨s0, s1, s2, s3, s4, s5⟩
                go_simp
                with_reducible rfl
               rotate_left
               ·
                simp only [Act.put, List.setIfInBounds_toArray, List.set_cons_zero, List.set_cons_succ, i64_w, i32_w]
                rfl
               refine join_ (σ := Value × Value × Value) 7 #[true, true, true, true, true, false, false, false, false, false, false, false] (fun s_ => [(65, s_.1), (67, s_.2.1), (69, s_.2.2)]) (fun s_ w' => (w'.cell? ⟨gb216, 0, none⟩ = some (.int .i64 a2_0) ∧ w'.cell? ⟨gb216, 1, none⟩ = some (.int .i64 a2_1) ∧ w'.cell? ⟨gb216, 2, none⟩ = some (.int .u64 a2_2) ∧ w'.cell? ⟨gb216, 3, none⟩ = some (.int .i64 a2_3) ∧ w'.cell? ⟨gb216, 4, none⟩ = some (.int .i64 a2_4) ∧ w'.cell? ⟨gb216, 5, none⟩ = some (.int .i64 a2_5)) ∧ (Kd.R k32 32 w' w.heap.size (fun k_ => some k_ ≠ (s_.2.2 : Value).ownBlock ∧ k_ ≠ gb216) s_.2.1 y229) ∧ (Kd.R k32 32 w' w.heap.size (fun k_ => some k_ ≠ (s_.2.1 : Value).ownBlock ∧ k_ ≠ gb216) s_.2.2 y232) ∧ (w'.heap[gb216]? = some (.cells #[.int .i64 a2_0, .int .i64 a2_1, .int .u64 a2_2, .int .i64 a2_3, .int .i64 a2_4, .int .i64 a2_5] 32 (0, 0))) ∧ (Below w.heap.size w w')) ?_ ?_
               rotate_left
               ·
                intro hCont
                refine two_ (i := 0) (j := 4) (Ni := some 65) (Nj := some 69) #[true, true, false, true, false, false, false, false, false, false, false, false] #[false, true, false, true, true, false, false, false, false, false, false, false] rfl rfl rfl rfl (two_of HT_.out (by kernel_rfl)) (by decide) (by decide) (fun K hK => ?_) (fun K hK => ?_)
                ·
                 skip
                 refine Kd.R_lit_step k32 _ 32 ?hg (N := 65) ?hd (xs := ([] : List (S32))) (inner := []) (ok := fun _ => True) (okp := fun _ => True) ?hr ?hp (fun _ hk => hk) trivial (Below.refl _ _) (Nat.le_refl _) (by simp) ?_; (case hd => rfl); (case hg => rfl); (case hr => first | (go_simp; done) | (go_simp; rfl)); (case hp => exact (Reps.none _ _))
                 intro v227 w44 ho45 hb hg_ hnew_
                 clear hg_ hnew_
                 (first | rw [← Ny226.out] at ho45 | (simp only [Int.reduceToNat] at ho45; rw [← Ny226.out] at ho45))
                 have n0_ := Aside0.mk (Kd.R_lower (Kd.R_newB ho45 (g := gb216) (o := .cells #[.int .i64 a2_0, .int .i64 a2_1, .int .u64 a2_2, .int .i64 a2_3, .int .i64 a2_4, .int .i64 a2_5] 32 (0, 0)) (by (with_reducible repeat (first | refine blk_drewN ?_ _ | refine blk_drew ?_ | refine blk_alloc ?_ _)); exact BK216.out)) (below_size (by repeat (first | (with_reducible first | exact HB.out | apply below_alloc | apply pw_below_drewN | apply below_drew1 | refine below_set ?_ GE216.out) | exact HB.out))))
                 have n1_ := Aside0.mk (blk_below (g := gb216) (o := .cells #[.int .i64 a2_0, .int .i64 a2_1, .int .u64 a2_2, .int .i64 a2_3, .int .i64 a2_4, .int .i64 a2_5] 32 (0, 0)) (by (with_reducible repeat (first | refine blk_drewN ?_ _ | refine blk_drew ?_ | refine blk_alloc ?_ _)); exact BK216.out) hb)
                 have n2_ := Aside0.mk (below_step (by repeat (first | (with_reducible first | exact HB.out | apply below_alloc | apply pw_below_drewN | apply below_drew1 | refine below_set ?_ GE216.out) | exact HB.out)) hb)
                 clear BK216 HB
                 have HO228 := n0_
                 have BK216 := n1_
                 have HB := n2_
                 clear n0_ n1_ n2_ hb ho45
                 refine hK.out _ _ ⟨(blk_cell BK216.out 0).trans rfl, (blk_cell BK216.out 1).trans rfl, (blk_cell BK216.out 2).trans rfl, (blk_cell BK216.out 3).trans rfl, (blk_cell BK216.out 4).trans rfl, (blk_cell BK216.out 5).trans rfl⟩ (fun hHeld => ?_)
                 clear hK K
                 refine norm_ (a' := ?_) ?_ ?_
                 rotate_left
                 ·
                  show Act.put _ (some 65) _ = _
                  simp only [Act.put, List.setIfInBounds_toArray, List.set_cons_zero, List.set_cons_succ, i64_w, i32_w]
                  rfl
                 refine two_ (i := 2) (j := 4) (Ni := some 67) (Nj := some 69) #[true, true, true, true, false, false, false, false, false, false, false, false] #[true, true, false, true, true, false, false, false, false, false, false, false] rfl rfl rfl rfl (two_of HT_.out (by kernel_rfl)) (by decide) (by decide) (fun K hK => ?_) (fun K hK => ?_)
                 ·
                  skip
                  refine Kd.R_append_rows_step k32 (w0 := w) w.heap.size (by rfl) (.tmp 65) (.tmp 66) 22 32 (.agg #[(.int .i64 0), (.int .i64 0), (.int .u64 0), (.int .i64 0), (.int .i64 0), (.int .i64 0)]) 48 rfl Try.underlying22 info32 rfl (by decide) (by omega) v227 y226 l0 _ _ _ (fun k_ => k_ ≠ gb216) (fun _ => False) rfl rfl ?aO ?aR (fun _ _ h => h) (fun _ h => h.elim) ?aF ?aB ?aS ?aL ?_
                  (case aR => repeat (first | exact (Kd.C_below HR0.out HB.out) | (with_reducible refine Kd.C_alloc ?_ _) | (with_reducible refine Kd.C_drewN ?_ _) | (with_reducible refine Kd.C_drew ?_)))
                  (case aB => exact (by repeat (first | (with_reducible first | exact HB.out | apply below_alloc | apply pw_below_drewN | apply below_drew1 | refine below_set ?_ GE216.out) | exact HB.out)))
                  (case aF => exact (fun k_ hk => Kd.freshB (g := gb216) (o := .cells #[.int .i64 a2_0, .int .i64 a2_1, .int .u64 a2_2, .int .i64 a2_3, .int .i64 a2_4, .int .i64 a2_5] 32 (0, 0)) (by (with_reducible repeat (first | refine blk_drewN ?_ _ | refine blk_drew ?_ | refine blk_alloc ?_ _)); exact BK216.out) k_ hk))
                  (case aO => exact (by (with_reducible repeat (first | apply Kd.R_alloc | apply Kd.R_drewN | apply Kd.R_drew)); exact Kd.R_mono HO228.out (fun _ hk => hk.2)))
                  (case aS => exact (below_size (by repeat (first | (with_reducible first | exact HB.out | apply below_alloc | apply pw_below_drewN | apply below_drew1 | refine below_set ?_ GE216.out) | exact HB.out))))
                  (case aL => have := LMc26.out; omega)
                  intro v230 w46 ho hb hg hat
                  rw [← Ny229.out] at ho
                  have n0_ := Aside0.mk (blk_grown (g := gb216) (o := .cells #[.int .i64 a2_0, .int .i64 a2_1, .int .u64 a2_2, .int .i64 a2_3, .int .i64 a2_4, .int .i64 a2_5] 32 (0, 0)) (by (with_reducible repeat (first | refine blk_drewN ?_ _ | refine blk_drew ?_ | refine blk_alloc ?_ _)); exact BK216.out) hg (Kd.R_away HO228.out (fun _ hk => hk.2)))
                  have n1_ := Aside0.mk (hb)
                  have n2_ := Aside0.mk (ho)
                  clear BK216 HB HO228
                  have BK216 := n0_
                  have HB := n1_
                  have HO231 := n2_
                  clear n0_ n1_ n2_ ho hb hg hat
                  refine hK.out _ _ ⟨(blk_cell BK216.out 0).trans rfl, (blk_cell BK216.out 1).trans rfl, (blk_cell BK216.out 2).trans rfl, (blk_cell BK216.out 3).trans rfl, (blk_cell BK216.out 4).trans rfl, (blk_cell BK216.out 5).trans rfl⟩ (fun hHeld => ?_)
                  clear hK K
                  refine norm_ (a' := ?_) ?_ ?_
                  rotate_left
                  ·
                   show Act.put _ (some 67) _ = _
                   simp only [Act.put, List.setIfInBounds_toArray, List.set_cons_zero, List.set_cons_succ, i64_w, i32_w]
                   rfl
                  refine one_ (i := 4) (N := some 69) #[true, true, true, true, true, false, false, false, false, false, false, false] rfl rfl (one_of HT_.out (by kernel_rfl)) (by decide) (fun K hK => ?_)
                  refine Kd.R_lit_step k32 _ 32 ?hg (N := 69) ?hd (xs := ([(⟨a2_0, a2_1, a2_2, (⟨a2_3, a2_4, a2_5⟩ : S30)⟩ : S32)] : List (S32))) (inner := [.int .i64 a2_0, .int .i64 a2_1, .int .u64 a2_2, .int .i64 a2_3, .int .i64 a2_4, .int .i64 a2_5]) (ok := fun _ => True) (okp := fun _ => True) ?hr ?hp (fun _ hk => hk) trivial (Below.refl _ _) (Nat.le_refl _) (by simp) ?_; (case hd => rfl); (case hg => rfl); (case hr => first | (go_simp; done) | (go_simp; rfl)); (case hp => exact (Reps.c6 (show Kd.M k32 _ _ _ (⟨a2_0, a2_1, a2_2, (⟨a2_3, a2_4, a2_5⟩ : S30)⟩ : S32) [.int .i64 a2_0, .int .i64 a2_1, .int .u64 a2_2, .int .i64 a2_3, .int .i64 a2_4, .int .i64 a2_5] from (k32_mkM _ _ _ (⟨a2_0, a2_1, a2_2, (⟨a2_3, a2_4, a2_5⟩ : S30)⟩ : S32) )) (Reps.none _ _)))
                  intro v233 w47 ho48 hb hg_ hnew_
                  clear hg_ hnew_
                  (first | rw [← Ny232.out] at ho48 | (simp only [Int.reduceToNat] at ho48; rw [← Ny232.out] at ho48))
                  have n0_ := Aside0.mk (Kd.R_elder' (by (with_reducible repeat (first | apply Kd.R_alloc | apply Kd.R_drewN | apply Kd.R_drew)); exact HO231.out) (Kd.R_base ho48) hb)
                  have n1_ := Aside0.mk (Kd.R_lower (Kd.R_newB (Kd.R_new' ho48 (Kd.R_lt (by (with_reducible repeat (first | apply Kd.R_alloc | apply Kd.R_drewN | apply Kd.R_drew)); exact HO231.out))) (g := gb216) (o := .cells #[.int .i64 a2_0, .int .i64 a2_1, .int .u64 a2_2, .int .i64 a2_3, .int .i64 a2_4, .int .i64 a2_5] 32 (0, 0)) (by (with_reducible repeat (first | refine blk_drewN ?_ _ | refine blk_drew ?_ | refine blk_alloc ?_ _)); exact BK216.out)) (below_size (by repeat (first | (with_reducible first | exact HB.out | apply below_alloc | apply pw_below_drewN | apply below_drew1 | refine below_set ?_ GE216.out) | exact HB.out))))
                  have n2_ := Aside0.mk (blk_below (g := gb216) (o := .cells #[.int .i64 a2_0, .int .i64 a2_1, .int .u64 a2_2, .int .i64 a2_3, .int .i64 a2_4, .int .i64 a2_5] 32 (0, 0)) (by (with_reducible repeat (first | refine blk_drewN ?_ _ | refine blk_drew ?_ | refine blk_alloc ?_ _)); exact BK216.out) hb)
                  have n3_ := Aside0.mk (below_step (by repeat (first | (with_reducible first | exact HB.out | apply below_alloc | apply pw_below_drewN | apply below_drew1 | refine below_set ?_ GE216.out) | exact HB.out)) hb)
                  clear HO231 BK216 HB
                  have HO231 := n0_
                  have HO234 := n1_
                  have BK216 := n2_
                  have HB := n3_
                  clear n0_ n1_ n2_ n3_ hb ho48
                  refine hK.out _ _ ⟨(blk_cell BK216.out 0).trans rfl, (blk_cell BK216.out 1).trans rfl, (blk_cell BK216.out 2).trans rfl, (blk_cell BK216.out 3).trans rfl, (blk_cell BK216.out 4).trans rfl, (blk_cell BK216.out 5).trans rfl⟩ (fun hHeld => ?_)
                  clear hK K
                  refine norm_ (a' := ?_) ?_ ?_
                  rotate_left
                  ·
                   show Act.put _ (some 69) _ = _
                   simp only [Act.put, List.setIfInBounds_toArray, List.set_cons_zero, List.set_cons_succ, i64_w, i32_w]
                   rfl
                  exact norm_ (by simp only [putAll, Act.put, List.setIfInBounds_toArray, List.set_cons_zero, List.set_cons_succ]) (hCont (v227, v230, v233) _ ⟨hHeld, (by (with_reducible repeat (first | apply Kd.R_alloc | apply Kd.R_drewN | apply Kd.R_drew)); exact Kd.R_mono HO231.out (fun _ hk => ⟨hk.2, hk.1⟩)), (by (with_reducible repeat (first | apply Kd.R_alloc | apply Kd.R_drewN | apply Kd.R_drew)); exact Kd.R_mono HO234.out (fun _ hk => ⟨hk.1.2, hk.2⟩)), (by (with_reducible repeat (first | refine blk_drewN ?_ _ | refine blk_drew ?_ | refine blk_alloc ?_ _)); exact BK216.out), (by repeat (first | (with_reducible first | exact HB.out | apply below_alloc | apply pw_below_drewN | apply below_drew1 | refine below_set ?_ GE216.out) | exact HB.out))⟩)
                 ·
                  skip
                  refine Kd.R_lit_step k32 _ 32 ?hg (N := 69) ?hd (xs := ([(⟨a2_0, a2_1, a2_2, (⟨a2_3, a2_4, a2_5⟩ : S30)⟩ : S32)] : List (S32))) (inner := [.int .i64 a2_0, .int .i64 a2_1, .int .u64 a2_2, .int .i64 a2_3, .int .i64 a2_4, .int .i64 a2_5]) (ok := fun _ => True) (okp := fun _ => True) ?hr ?hp (fun _ hk => hk) trivial (Below.refl _ _) (Nat.le_refl _) (by simp) ?_; (case hd => rfl); (case hg => rfl); (case hr => first | (go_simp; done) | (go_simp; rfl)); (case hp => exact (Reps.c6 (show Kd.M k32 _ _ _ (⟨a2_0, a2_1, a2_2, (⟨a2_3, a2_4, a2_5⟩ : S30)⟩ : S32) [.int .i64 a2_0, .int .i64 a2_1, .int .u64 a2_2, .int .i64 a2_3, .int .i64 a2_4, .int .i64 a2_5] from (k32_mkM _ _ _ (⟨a2_0, a2_1, a2_2, (⟨a2_3, a2_4, a2_5⟩ : S30)⟩ : S32) )) (Reps.none _ _)))
                  intro v233 w46 ho47 hb hg_ hnew_
                  clear hg_ hnew_
                  (first | rw [← Ny232.out] at ho47 | (simp only [Int.reduceToNat] at ho47; rw [← Ny232.out] at ho47))
                  have n0_ := Aside0.mk (Kd.R_elder' (by (with_reducible repeat (first | apply Kd.R_alloc | apply Kd.R_drewN | apply Kd.R_drew)); exact HO228.out) (Kd.R_base ho47) hb)
                  have n1_ := Aside0.mk (Kd.R_lower (Kd.R_newB (Kd.R_new' ho47 (Kd.R_lt (by (with_reducible repeat (first | apply Kd.R_alloc | apply Kd.R_drewN | apply Kd.R_drew)); exact HO228.out))) (g := gb216) (o := .cells #[.int .i64 a2_0, .int .i64 a2_1, .int .u64 a2_2, .int .i64 a2_3, .int .i64 a2_4, .int .i64 a2_5] 32 (0, 0)) (by (with_reducible repeat (first | refine blk_drewN ?_ _ | refine blk_drew ?_ | refine blk_alloc ?_ _)); exact BK216.out)) (below_size (by repeat (first | (with_reducible first | exact HB.out | apply below_alloc | apply pw_below_drewN | apply below_drew1 | refine below_set ?_ GE216.out) | exact HB.out))))
                  have n2_ := Aside0.mk (blk_below (g := gb216) (o := .cells #[.int .i64 a2_0, .int .i64 a2_1, .int .u64 a2_2, .int .i64 a2_3, .int .i64 a2_4, .int .i64 a2_5] 32 (0, 0)) (by (with_reducible repeat (first | refine blk_drewN ?_ _ | refine blk_drew ?_ | refine blk_alloc ?_ _)); exact BK216.out) hb)
                  have n3_ := Aside0.mk (below_step (by repeat (first | (with_reducible first | exact HB.out | apply below_alloc | apply pw_below_drewN | apply below_drew1 | refine below_set ?_ GE216.out) | exact HB.out)) hb)
                  clear HO228 BK216 HB
                  have HO228 := n0_
                  have HO234 := n1_
                  have BK216 := n2_
                  have HB := n3_
                  clear n0_ n1_ n2_ n3_ hb ho47
                  refine hK.out _ _ ⟨(blk_cell BK216.out 0).trans rfl, (blk_cell BK216.out 1).trans rfl, (blk_cell BK216.out 2).trans rfl, (blk_cell BK216.out 3).trans rfl, (blk_cell BK216.out 4).trans rfl, (blk_cell BK216.out 5).trans rfl⟩ (fun hHeld => ?_)
                  clear hK K
                  refine norm_ (a' := ?_) ?_ ?_
                  rotate_left
                  ·
                   show Act.put _ (some 69) _ = _
                   simp only [Act.put, List.setIfInBounds_toArray, List.set_cons_zero, List.set_cons_succ, i64_w, i32_w]
                   rfl
                  refine one_ (i := 2) (N := some 67) #[true, true, true, true, true, false, false, false, false, false, false, false] rfl rfl (one_of HT_.out (by kernel_rfl)) (by decide) (fun K hK => ?_)
                  refine Kd.R_append_rows_step k32 (w0 := w) w.heap.size (by rfl) (.tmp 65) (.tmp 66) 22 32 (.agg #[(.int .i64 0), (.int .i64 0), (.int .u64 0), (.int .i64 0), (.int .i64 0), (.int .i64 0)]) 48 rfl Try.underlying22 info32 rfl (by decide) (by omega) v227 y226 l0 _ _ _ (fun k_ => some k_ ≠ (v233 : Value).ownBlock ∧ k_ ≠ gb216) (fun _ => False) rfl rfl ?aO ?aR (fun _ _ h => h) (fun _ h => h.elim) ?aF ?aB ?aS ?aL ?_
                  (case aR => repeat (first | exact (Kd.C_below HR0.out HB.out) | (with_reducible refine Kd.C_alloc ?_ _) | (with_reducible refine Kd.C_drewN ?_ _) | (with_reducible refine Kd.C_drew ?_)))
                  (case aB => exact (by repeat (first | (with_reducible first | exact HB.out | apply below_alloc | apply pw_below_drewN | apply below_drew1 | refine below_set ?_ GE216.out) | exact HB.out)))
                  (case aF => exact (fun k_ hk => ⟨Kd.fresh' (Kd.R_lt (by (with_reducible repeat (first | apply Kd.R_alloc | apply Kd.R_drewN | apply Kd.R_drew)); exact HO234.out)) k_ hk, Kd.freshB (g := gb216) (o := .cells #[.int .i64 a2_0, .int .i64 a2_1, .int .u64 a2_2, .int .i64 a2_3, .int .i64 a2_4, .int .i64 a2_5] 32 (0, 0)) (by (with_reducible repeat (first | refine blk_drewN ?_ _ | refine blk_drew ?_ | refine blk_alloc ?_ _)); exact BK216.out) k_ hk⟩))
                  (case aO => exact (by (with_reducible repeat (first | apply Kd.R_alloc | apply Kd.R_drewN | apply Kd.R_drew)); exact Kd.R_mono HO228.out (fun _ hk => ⟨hk.2, hk.1.2⟩)))
                  (case aS => exact (below_size (by repeat (first | (with_reducible first | exact HB.out | apply below_alloc | apply pw_below_drewN | apply below_drew1 | refine below_set ?_ GE216.out) | exact HB.out))))
                  (case aL => have := LMc26.out; omega)
                  intro v230 w48 ho hb hg hat
                  rw [← Ny229.out] at ho
                  have n0_ := Aside0.mk (blk_grown (g := gb216) (o := .cells #[.int .i64 a2_0, .int .i64 a2_1, .int .u64 a2_2, .int .i64 a2_3, .int .i64 a2_4, .int .i64 a2_5] 32 (0, 0)) (by (with_reducible repeat (first | refine blk_drewN ?_ _ | refine blk_drew ?_ | refine blk_alloc ?_ _)); exact BK216.out) hg (Kd.R_away HO228.out (fun _ hk => hk.1.2)))
                  have n1_ := Aside0.mk (Kd.R_after (ok := (fun k_ => k_ ≠ gb216)) (by (with_reducible repeat (first | apply Kd.R_alloc | apply Kd.R_drewN | apply Kd.R_drew)); exact Kd.R_mono HO234.out (fun _ hk => ⟨hk.2, hk.1.2⟩)) hg hat)
                  have n2_ := Aside0.mk (hb)
                  have n3_ := Aside0.mk (ho)
                  clear BK216 HO234 HB HO228
                  have BK216 := n0_
                  have HO234 := n1_
                  have HB := n2_
                  have HO231 := n3_
                  clear n0_ n1_ n2_ n3_ ho hb hg hat
                  refine hK.out _ _ ⟨(blk_cell BK216.out 0).trans rfl, (blk_cell BK216.out 1).trans rfl, (blk_cell BK216.out 2).trans rfl, (blk_cell BK216.out 3).trans rfl, (blk_cell BK216.out 4).trans rfl, (blk_cell BK216.out 5).trans rfl⟩ (fun hHeld => ?_)
                  clear hK K
                  refine norm_ (a' := ?_) ?_ ?_
                  rotate_left
                  ·
                   show Act.put _ (some 67) _ = _
                   simp only [Act.put, List.setIfInBounds_toArray, List.set_cons_zero, List.set_cons_succ, i64_w, i32_w]
                   rfl
                  exact norm_ (by simp only [putAll, Act.put, List.setIfInBounds_toArray, List.set_cons_zero, List.set_cons_succ]) (hCont (v227, v230, v233) _ ⟨hHeld, (by (with_reducible repeat (first | apply Kd.R_alloc | apply Kd.R_drewN | apply Kd.R_drew)); exact HO231.out), (by (with_reducible repeat (first | apply Kd.R_alloc | apply Kd.R_drewN | apply Kd.R_drew)); exact Kd.R_mono HO234.out (fun _ hk => ⟨hk.2, hk.1⟩)), (by (with_reducible repeat (first | refine blk_drewN ?_ _ | refine blk_drew ?_ | refine blk_alloc ?_ _)); exact BK216.out), (by repeat (first | (with_reducible first | exact HB.out | apply below_alloc | apply pw_below_drewN | apply below_drew1 | refine below_set ?_ GE216.out) | exact HB.out))⟩)
                ·
                 skip
                 refine Kd.R_lit_step k32 _ 32 ?hg (N := 69) ?hd (xs := ([(⟨a2_0, a2_1, a2_2, (⟨a2_3, a2_4, a2_5⟩ : S30)⟩ : S32)] : List (S32))) (inner := [.int .i64 a2_0, .int .i64 a2_1, .int .u64 a2_2, .int .i64 a2_3, .int .i64 a2_4, .int .i64 a2_5]) (ok := fun _ => True) (okp := fun _ => True) ?hr ?hp (fun _ hk => hk) trivial (Below.refl _ _) (Nat.le_refl _) (by simp) ?_; (case hd => rfl); (case hg => rfl); (case hr => first | (go_simp; done) | (go_simp; rfl)); (case hp => exact (Reps.c6 (show Kd.M k32 _ _ _ (⟨a2_0, a2_1, a2_2, (⟨a2_3, a2_4, a2_5⟩ : S30)⟩ : S32) [.int .i64 a2_0, .int .i64 a2_1, .int .u64 a2_2, .int .i64 a2_3, .int .i64 a2_4, .int .i64 a2_5] from (k32_mkM _ _ _ (⟨a2_0, a2_1, a2_2, (⟨a2_3, a2_4, a2_5⟩ : S30)⟩ : S32) )) (Reps.none _ _)))
                 intro v233 w44 ho45 hb hg_ hnew_
                 clear hg_ hnew_
                 (first | rw [← Ny232.out] at ho45 | (simp only [Int.reduceToNat] at ho45; rw [← Ny232.out] at ho45))
                 have n0_ := Aside0.mk (Kd.R_lower (Kd.R_newB ho45 (g := gb216) (o := .cells #[.int .i64 a2_0, .int .i64 a2_1, .int .u64 a2_2, .int .i64 a2_3, .int .i64 a2_4, .int .i64 a2_5] 32 (0, 0)) (by (with_reducible repeat (first | refine blk_drewN ?_ _ | refine blk_drew ?_ | refine blk_alloc ?_ _)); exact BK216.out)) (below_size (by repeat (first | (with_reducible first | exact HB.out | apply below_alloc | apply pw_below_drewN | apply below_drew1 | refine below_set ?_ GE216.out) | exact HB.out))))
                 have n1_ := Aside0.mk (blk_below (g := gb216) (o := .cells #[.int .i64 a2_0, .int .i64 a2_1, .int .u64 a2_2, .int .i64 a2_3, .int .i64 a2_4, .int .i64 a2_5] 32 (0, 0)) (by (with_reducible repeat (first | refine blk_drewN ?_ _ | refine blk_drew ?_ | refine blk_alloc ?_ _)); exact BK216.out) hb)
                 have n2_ := Aside0.mk (below_step (by repeat (first | (with_reducible first | exact HB.out | apply below_alloc | apply pw_below_drewN | apply below_drew1 | refine below_set ?_ GE216.out) | exact HB.out)) hb)
                 clear BK216 HB
                 have HO234 := n0_
                 have BK216 := n1_
                 have HB := n2_
                 clear n0_ n1_ n2_ hb ho45
                 refine hK.out _ _ ⟨(blk_cell BK216.out 0).trans rfl, (blk_cell BK216.out 1).trans rfl, (blk_cell BK216.out 2).trans rfl, (blk_cell BK216.out 3).trans rfl, (blk_cell BK216.out 4).trans rfl, (blk_cell BK216.out 5).trans rfl⟩ (fun hHeld => ?_)
                 clear hK K
                 refine norm_ (a' := ?_) ?_ ?_
                 rotate_left
                 ·
                  show Act.put _ (some 69) _ = _
                  simp only [Act.put, List.setIfInBounds_toArray, List.set_cons_zero, List.set_cons_succ, i64_w, i32_w]
                  rfl
                 refine one_ (i := 0) (N := some 65) #[true, true, false, true, true, false, false, false, false, false, false, false] rfl rfl (one_of HT_.out (by kernel_rfl)) (by decide) (fun K hK => ?_)
                 refine Kd.R_lit_step k32 _ 32 ?hg (N := 65) ?hd (xs := ([] : List (S32))) (inner := []) (ok := fun _ => True) (okp := fun _ => True) ?hr ?hp (fun _ hk => hk) trivial (Below.refl _ _) (Nat.le_refl _) (by simp) ?_; (case hd => rfl); (case hg => rfl); (case hr => first | (go_simp; done) | (go_simp; rfl)); (case hp => exact (Reps.none _ _))
                 intro v227 w46 ho47 hb hg_ hnew_
                 clear hg_ hnew_
                 (first | rw [← Ny226.out] at ho47 | (simp only [Int.reduceToNat] at ho47; rw [← Ny226.out] at ho47))
                 have n0_ := Aside0.mk (Kd.R_elder' (by (with_reducible repeat (first | apply Kd.R_alloc | apply Kd.R_drewN | apply Kd.R_drew)); exact HO234.out) (Kd.R_base ho47) hb)
                 have n1_ := Aside0.mk (Kd.R_lower (Kd.R_newB (Kd.R_new' ho47 (Kd.R_lt (by (with_reducible repeat (first | apply Kd.R_alloc | apply Kd.R_drewN | apply Kd.R_drew)); exact HO234.out))) (g := gb216) (o := .cells #[.int .i64 a2_0, .int .i64 a2_1, .int .u64 a2_2, .int .i64 a2_3, .int .i64 a2_4, .int .i64 a2_5] 32 (0, 0)) (by (with_reducible repeat (first | refine blk_drewN ?_ _ | refine blk_drew ?_ | refine blk_alloc ?_ _)); exact BK216.out)) (below_size (by repeat (first | (with_reducible first | exact HB.out | apply below_alloc | apply pw_below_drewN | apply below_drew1 | refine below_set ?_ GE216.out) | exact HB.out))))
                 have n2_ := Aside0.mk (blk_below (g := gb216) (o := .cells #[.int .i64 a2_0, .int .i64 a2_1, .int .u64 a2_2, .int .i64 a2_3, .int .i64 a2_4, .int .i64 a2_5] 32 (0, 0)) (by (with_reducible repeat (first | refine blk_drewN ?_ _ | refine blk_drew ?_ | refine blk_alloc ?_ _)); exact BK216.out) hb)
                 have n3_ := Aside0.mk (below_step (by repeat (first | (with_reducible first | exact HB.out | apply below_alloc | apply pw_below_drewN | apply below_drew1 | refine below_set ?_ GE216.out) | exact HB.out)) hb)
                 clear HO234 BK216 HB
                 have HO234 := n0_
                 have HO228 := n1_
                 have BK216 := n2_
                 have HB := n3_
                 clear n0_ n1_ n2_ n3_ hb ho47
                 refine hK.out _ _ ⟨(blk_cell BK216.out 0).trans rfl, (blk_cell BK216.out 1).trans rfl, (blk_cell BK216.out 2).trans rfl, (blk_cell BK216.out 3).trans rfl, (blk_cell BK216.out 4).trans rfl, (blk_cell BK216.out 5).trans rfl⟩ (fun hHeld => ?_)
                 clear hK K
                 refine norm_ (a' := ?_) ?_ ?_
                 rotate_left
                 ·
                  show Act.put _ (some 65) _ = _
                  simp only [Act.put, List.setIfInBounds_toArray, List.set_cons_zero, List.set_cons_succ, i64_w, i32_w]
                  rfl
                 refine one_ (i := 2) (N := some 67) #[true, true, true, true, true, false, false, false, false, false, false, false] rfl rfl (one_of HT_.out (by kernel_rfl)) (by decide) (fun K hK => ?_)
                 refine Kd.R_append_rows_step k32 (w0 := w) w.heap.size (by rfl) (.tmp 65) (.tmp 66) 22 32 (.agg #[(.int .i64 0), (.int .i64 0), (.int .u64 0), (.int .i64 0), (.int .i64 0), (.int .i64 0)]) 48 rfl Try.underlying22 info32 rfl (by decide) (by omega) v227 y226 l0 _ _ _ (fun k_ => some k_ ≠ (v233 : Value).ownBlock ∧ k_ ≠ gb216) (fun _ => False) rfl rfl ?aO ?aR (fun _ _ h => h) (fun _ h => h.elim) ?aF ?aB ?aS ?aL ?_
                 (case aR => repeat (first | exact (Kd.C_below HR0.out HB.out) | (with_reducible refine Kd.C_alloc ?_ _) | (with_reducible refine Kd.C_drewN ?_ _) | (with_reducible refine Kd.C_drew ?_)))
                 (case aB => exact (by repeat (first | (with_reducible first | exact HB.out | apply below_alloc | apply pw_below_drewN | apply below_drew1 | refine below_set ?_ GE216.out) | exact HB.out)))
                 (case aF => exact (fun k_ hk => ⟨Kd.fresh' (Kd.R_lt (by (with_reducible repeat (first | apply Kd.R_alloc | apply Kd.R_drewN | apply Kd.R_drew)); exact HO234.out)) k_ hk, Kd.freshB (g := gb216) (o := .cells #[.int .i64 a2_0, .int .i64 a2_1, .int .u64 a2_2, .int .i64 a2_3, .int .i64 a2_4, .int .i64 a2_5] 32 (0, 0)) (by (with_reducible repeat (first | refine blk_drewN ?_ _ | refine blk_drew ?_ | refine blk_alloc ?_ _)); exact BK216.out) k_ hk⟩))
                 (case aO => exact (by (with_reducible repeat (first | apply Kd.R_alloc | apply Kd.R_drewN | apply Kd.R_drew)); exact Kd.R_mono HO228.out (fun _ hk => ⟨hk.1.2, hk.2⟩)))
                 (case aS => exact (below_size (by repeat (first | (with_reducible first | exact HB.out | apply below_alloc | apply pw_below_drewN | apply below_drew1 | refine below_set ?_ GE216.out) | exact HB.out))))
                 (case aL => have := LMc26.out; omega)
                 intro v230 w48 ho hb hg hat
                 rw [← Ny229.out] at ho
                 have n0_ := Aside0.mk (blk_grown (g := gb216) (o := .cells #[.int .i64 a2_0, .int .i64 a2_1, .int .u64 a2_2, .int .i64 a2_3, .int .i64 a2_4, .int .i64 a2_5] 32 (0, 0)) (by (with_reducible repeat (first | refine blk_drewN ?_ _ | refine blk_drew ?_ | refine blk_alloc ?_ _)); exact BK216.out) hg (Kd.R_away HO228.out (fun _ hk => hk.2)))
                 have n1_ := Aside0.mk (Kd.R_after (ok := (fun k_ => k_ ≠ gb216)) (by (with_reducible repeat (first | apply Kd.R_alloc | apply Kd.R_drewN | apply Kd.R_drew)); exact Kd.R_mono HO234.out (fun _ hk => ⟨hk.1.2, hk.2⟩)) hg hat)
                 have n2_ := Aside0.mk (hb)
                 have n3_ := Aside0.mk (ho)
                 clear BK216 HO234 HB HO228
                 have BK216 := n0_
                 have HO234 := n1_
                 have HB := n2_
                 have HO231 := n3_
                 clear n0_ n1_ n2_ n3_ ho hb hg hat
                 refine hK.out _ _ ⟨(blk_cell BK216.out 0).trans rfl, (blk_cell BK216.out 1).trans rfl, (blk_cell BK216.out 2).trans rfl, (blk_cell BK216.out 3).trans rfl, (blk_cell BK216.out 4).trans rfl, (blk_cell BK216.out 5).trans rfl⟩ (fun hHeld => ?_)
                 clear hK K
                 refine norm_ (a' := ?_) ?_ ?_
                 rotate_left
                 ·
                  show Act.put _ (some 67) _ = _
                  simp only [Act.put, List.setIfInBounds_toArray, List.set_cons_zero, List.set_cons_succ, i64_w, i32_w]
                  rfl
                 exact norm_ (by simp only [putAll, Act.put, List.setIfInBounds_toArray, List.set_cons_zero, List.set_cons_succ]) (hCont (v227, v230, v233) _ ⟨hHeld, (by (with_reducible repeat (first | apply Kd.R_alloc | apply Kd.R_drewN | apply Kd.R_drew)); exact HO231.out), (by (with_reducible repeat (first | apply Kd.R_alloc | apply Kd.R_drewN | apply Kd.R_drew)); exact Kd.R_mono HO234.out (fun _ hk => ⟨hk.2, hk.1⟩)), (by (with_reducible repeat (first | refine blk_drewN ?_ _ | refine blk_drew ?_ | refine blk_alloc ?_ _)); exact BK216.out), (by repeat (first | (with_reducible first | exact HB.out | apply below_alloc | apply pw_below_drewN | apply below_drew1 | refine below_set ?_ GE216.out) | exact HB.out))⟩)
               rintro ⟨v227, v230, v233⟩ w49 ⟨hS_, h0_, h1_, h2_, h3_⟩
               have n0_ : Aside0 (Kd.R k32 32 w49 w.heap.size (fun k_ => some k_ ≠ (v233 : Value).ownBlock ∧ k_ ≠ gb216) v230 y229) := ⟨h0_⟩
               have n1_ : Aside0 (Kd.R k32 32 w49 w.heap.size (fun k_ => some k_ ≠ (v230 : Value).ownBlock ∧ k_ ≠ gb216) v233 y232) := ⟨h1_⟩
               have n2_ : Aside0 (w49.heap[gb216]? = some (.cells #[.int .i64 a2_0, .int .i64 a2_1, .int .u64 a2_2, .int .i64 a2_3, .int .i64 a2_4, .int .i64 a2_5] 32 (0, 0))) := ⟨h2_⟩
               have n3_ : Aside0 (Below w.heap.size w w49) := ⟨h3_⟩
               clear BK216 HB h0_ h1_ h2_ h3_
               have HO231 := n0_
               have HO234 := n1_
               have BK216 := n2_
               have HB := n3_
               clear n0_ n1_ n2_ n3_
               have hHeld : w49.cell? ⟨gb216, 0, none⟩ = some (.int .i64 a2_0) ∧ w49.cell? ⟨gb216, 1, none⟩ = some (.int .i64 a2_1) ∧ w49.cell? ⟨gb216, 2, none⟩ = some (.int .u64 a2_2) ∧ w49.cell? ⟨gb216, 3, none⟩ = some (.int .i64 a2_3) ∧ w49.cell? ⟨gb216, 4, none⟩ = some (.int .i64 a2_4) ∧ w49.cell? ⟨gb216, 5, none⟩ = some (.int .i64 a2_5) := hS_
               obtain ⟨Ao51, co51, eo51⟩ := Kd.R_slice HO234.out
               (first | subst eo51 | (injection eo51 with f1_ f2_ f3_; have f4_ := f1_.symm; have f5_ := f3_.symm; clear f1_ f2_ f3_; subst f4_; subst f5_))
               refine norm_ (a' := ?_) ?_ ?_
               rotate_left
               ·
                simp only [putAll, Act.put, List.setIfInBounds_toArray, List.set_cons_zero, List.set_cons_succ]
                rfl
               refine one_ (i := 5) (N := some 70) #[true, true, true, true, true, true, false, false, false, false, false, false] rfl rfl (one_of HT_.out (by kernel_rfl)) (by decide) (fun K hK => ?_)
               refine Kd.R_append_rows_step k32 (w0 := w) w.heap.size (by rfl) (.tmp 67) (.tmp 69) 22 32 (.agg #[(.int .i64 0), (.int .i64 0), (.int .u64 0), (.int .i64 0), (.int .i64 0), (.int .i64 0)]) 48 rfl Try.underlying22 info32 rfl (by decide) (by omega) v230 y229 y232 _ _ _ (fun k_ => some k_ ≠ (.slice Ao51 y232.length co51 : Value).ownBlock ∧ k_ ≠ gb216) (fun _ => False) rfl rfl ?aO ?aR (fun _ _ h => h) (fun _ h => h.elim) ?aF ?aB ?aS ?aL ?_
               (case aR => repeat (first | exact (Kd.R_reads' HO234.out).2.2 | (with_reducible refine Kd.C_alloc ?_ _) | (with_reducible refine Kd.C_drewN ?_ _) | (with_reducible refine Kd.C_drew ?_)))
               (case aB => exact (by repeat (first | (with_reducible first | exact HB.out | apply below_alloc | apply pw_below_drewN | apply below_drew1 | refine below_set ?_ GE216.out) | exact HB.out)))
               (case aF => exact (fun k_ hk => ⟨Kd.fresh' (Kd.R_lt (by (with_reducible repeat (first | apply Kd.R_alloc | apply Kd.R_drewN | apply Kd.R_drew)); exact HO234.out)) k_ hk, Kd.freshB (g := gb216) (o := .cells #[.int .i64 a2_0, .int .i64 a2_1, .int .u64 a2_2, .int .i64 a2_3, .int .i64 a2_4, .int .i64 a2_5] 32 (0, 0)) (by (with_reducible repeat (first | refine blk_drewN ?_ _ | refine blk_drew ?_ | refine blk_alloc ?_ _)); exact BK216.out) k_ hk⟩))
               (case aO => exact (by (with_reducible repeat (first | apply Kd.R_alloc | apply Kd.R_drewN | apply Kd.R_drew)); exact HO231.out))
               (case aS => exact (below_size (by repeat (first | (with_reducible first | exact HB.out | apply below_alloc | apply pw_below_drewN | apply below_drew1 | refine below_set ?_ GE216.out) | exact HB.out))))
               (case aL => have := LMc27.out; omega)
               intro v236 w50 ho hb hg hat
               rw [← Ny235.out] at ho
               have n0_ := Aside0.mk (blk_grown (g := gb216) (o := .cells #[.int .i64 a2_0, .int .i64 a2_1, .int .u64 a2_2, .int .i64 a2_3, .int .i64 a2_4, .int .i64 a2_5] 32 (0, 0)) (by (with_reducible repeat (first | refine blk_drewN ?_ _ | refine blk_drew ?_ | refine blk_alloc ?_ _)); exact BK216.out) hg (Kd.R_away HO231.out (fun _ hk => hk.2)))
               have n1_ := Aside0.mk (Kd.R_after (ok := (fun k_ => k_ ≠ gb216)) (by (with_reducible repeat (first | apply Kd.R_alloc | apply Kd.R_drewN | apply Kd.R_drew)); exact Kd.R_mono HO234.out (fun _ hk => ⟨hk.2, hk.1⟩)) hg hat)
               have n2_ := Aside0.mk (hb)
               have n3_ := Aside0.mk (ho)
               clear BK216 HO234 HB HO231
               have BK216 := n0_
               have HO234 := n1_
               have HB := n2_
               have HO237 := n3_
               clear n0_ n1_ n2_ n3_ ho hb hg hat
               obtain ⟨Ao52, co52, eo52⟩ := Kd.R_slice HO237.out
               (first | subst eo52 | (injection eo52 with f1_ f2_ f3_; have f4_ := f1_.symm; have f5_ := f3_.symm; clear f1_ f2_ f3_; subst f4_; subst f5_))
               refine hK.out _ _ ⟨(blk_cell BK216.out 0).trans rfl, (blk_cell BK216.out 1).trans rfl, (blk_cell BK216.out 2).trans rfl, (blk_cell BK216.out 3).trans rfl, (blk_cell BK216.out 4).trans rfl, (blk_cell BK216.out 5).trans rfl⟩ (fun hHeld => ?_)
               clear hK K
               refine norm_ (a' := ?_) ?_ ?_
               rotate_left
               ·
                show Act.put _ (some 70) _ = _
                simp only [Act.put, List.setIfInBounds_toArray, List.set_cons_zero, List.set_cons_succ, i64_w, i32_w]
                rfl
               refine one_ (i := 6) (N := some 71) #[true, true, true, true, true, true, true, false, false, false, false, false] rfl rfl (one_of HT_.out (by kernel_rfl)) (by decide) (fun K hK => ?_)
               refine goes_ Try.func19 (by kernel_rfl) rfl #[.slice Ao52 y235.length co52] (by rfl) rfl rfl (by (try simp only [List.map_toArray, List.map_cons, List.map_nil]); first | done | rfl | (simp only [List.length_drop, List.length_take]; rfl)) ?_
               with_reducible refine (term_Check.calls kj15 _ _ y235 t238 t239 _ ?side1 ?side2 A28.out).mono ?_
               (case side1 => repeat (first | exact (Kd.R_reads' HO237.out).2.2 | (with_reducible refine Kd.C_alloc ?_ _) | (with_reducible refine Kd.C_drewN ?_ _) | (with_reducible refine Kd.C_drew ?_)))
               (case side2 => exact (Kd.R_reads' HO237.out).2.1)
               rintro e w53 ⟨rfl, hb⟩
               refine ⟨_, rfl, ?_⟩
               have n0_ := Aside0.mk (Kd.R_below (by (with_reducible repeat (first | apply Kd.R_alloc | apply Kd.R_drewN | apply Kd.R_drew)); exact HO234.out) hb)
               have n1_ := Aside0.mk (Kd.R_below (by (with_reducible repeat (first | apply Kd.R_alloc | apply Kd.R_drewN | apply Kd.R_drew)); exact HO237.out) hb)
               have n2_ := Aside0.mk (blk_below (g := gb216) (o := .cells #[.int .i64 a2_0, .int .i64 a2_1, .int .u64 a2_2, .int .i64 a2_3, .int .i64 a2_4, .int .i64 a2_5] 32 (0, 0)) (by (with_reducible repeat (first | refine blk_drewN ?_ _ | refine blk_drew ?_ | refine blk_alloc ?_ _)); exact BK216.out) hb)
               have n3_ := Aside0.mk (below_step (by repeat (first | (with_reducible first | exact HB.out | apply below_alloc | apply pw_below_drewN | apply below_drew1 | refine below_set ?_ GE216.out) | exact HB.out)) hb)
               clear HO234 HO237 BK216 HB
               have HO234 := n0_
               have HO237 := n1_
               have BK216 := n2_
               have HB := n3_
               clear n0_ n1_ n2_ n3_
               (try clear hb)
               (try clear hb2)
               (try clear hk)
               (try clear hi)
               refine hK.out _ _ ⟨(blk_cell BK216.out 0).trans rfl, (blk_cell BK216.out 1).trans rfl, (blk_cell BK216.out 2).trans rfl, (blk_cell BK216.out 3).trans rfl, (blk_cell BK216.out 4).trans rfl, (blk_cell BK216.out 5).trans rfl⟩ (fun hHeld => ?_)
               clear hK K
               refine norm_ (a' := ?_) ?_ ?_
               rotate_left
               ·
                show Act.put _ (some 71) _ = _
                simp only [Act.put, List.setIfInBounds_toArray, List.set_cons_zero, List.set_cons_succ, i64_w, i32_w]
                rfl
               refine pure_ (i := 7) (N := some 64) (v := ?_) (a' := ?_) #[true, true, true, true, true, true, true, true, false, false, false, false] rfl rfl (any_of HT_.out (by kernel_rfl)) (fun _ _ _ h => h) (Or.inl ⟨by rfl, ?_⟩) ?_ ?_
               rotate_left
               ·
                intro w'
                go_simp
                with_reducible rfl
               rotate_left
               ·
                simp only [Act.put, List.setIfInBounds_toArray, List.set_cons_zero, List.set_cons_succ, i64_w, i32_w]
                rfl
               refine pure_ (i := 8) (N := some 72) (v := ?_) (a' := ?_) #[true, true, true, true, true, true, true, true, true, false, false, false] rfl rfl (any_of HT_.out (by kernel_rfl)) (fun _ _ _ h => h) (Or.inl ⟨by rfl, ?_⟩) ?_ ?_
               rotate_left
               ·
                intro w'
                go_simp
                with_reducible rfl
               rotate_left
               ·
                simp only [Act.put, List.setIfInBounds_toArray, List.set_cons_zero, List.set_cons_succ, i64_w, i32_w]
                rfl
               refine pure_ (i := 9) (N := some 73) (v := ?_) (a' := ?_) #[true, true, true, true, true, true, true, true, true, true, false, false] rfl rfl (any_of HT_.out (by kernel_rfl)) (fun _ _ _ h => h) (Or.inl ⟨by rfl, ?_⟩) ?_ ?_
               rotate_left
               ·
                intro w'
                go_simp
                with_reducible rfl
               rotate_left
               ·
                simp only [Act.put, List.setIfInBounds_toArray, List.set_cons_zero, List.set_cons_succ, i64_w, i32_w]
                rfl
               refine pure_ (i := 10) (N := some 11) (v := ?_) (a' := ?_) #[true, true, true, true, true, true, true, true, true, true, true, false] rfl rfl (any_of HT_.out (by kernel_rfl)) (fun _ _ _ h => h) (Or.inl ⟨by rfl, ?_⟩) ?_ ?_
               rotate_left
               ·
                intro w'
                go_simp
                with_reducible rfl
               rotate_left
               ·
                simp only [Act.put, List.setIfInBounds_toArray, List.set_cons_zero, List.set_cons_succ, i64_w, i32_w]
                rfl
               refine pure_ (i := 11) (N := some 12) (v := ?_) (a' := ?_) #[true, true, true, true, true, true, true, true, true, true, true, true] rfl rfl (any_of HT_.out (by kernel_rfl)) (fun _ _ _ h => h) (Or.inl ⟨by rfl, ?_⟩) ?_ ?_
               rotate_left
               ·
                intro w'
                go_simp
                with_reducible rfl
               rotate_left
               ·
                simp only [Act.put, List.setIfInBounds_toArray, List.set_cons_zero, List.set_cons_succ, i64_w, i32_w]
                rfl
               refine done_ (done_of HT_.out (by kernel_rfl)) ?_
               try go_wp2
               go_ret
               exact ⟨by first | rfl | (simp [errW_none, errW_some] <;> rfl) | (simp [*, errW_none, errW_some] <;> rfl), by repeat (first | (with_reducible first | exact HB.out | apply below_alloc | apply pw_below_drewN | apply below_drew1 | refine below_set ?_ GE216.out) | exact HB.out)⟩
             ·
              rw [if_neg c30] at H
              have c30b0 : (t238 == 0) = false := beq_eq_false_iff_ne.mpr c30
              have c30b1 : (t238 != 0) = true := bne_iff_ne.mpr c30
              obtain rfl := Option.some.inj H
              try go_wp2
              have n0_ := Aside0.mk (blk_drew BK216.out)
              have n1_ := Aside0.mk (below_drew1 HB.out)
              clear BK216 HB
              have BK216 := n0_
              have HB := n1_
              clear n0_ n1_
              refine start_ (n := 12) (S := fun w' => w'.cell? ⟨gb216, 0, none⟩ = some (.int .i64 a2_0) ∧ w'.cell? ⟨gb216, 1, none⟩ = some (.int .i64 a2_1) ∧ w'.cell? ⟨gb216, 2, none⟩ = some (.int .u64 a2_2) ∧ w'.cell? ⟨gb216, 3, none⟩ = some (.int .i64 a2_3) ∧ w'.cell? ⟨gb216, 4, none⟩ = some (.int .i64 a2_4) ∧ w'.cell? ⟨gb216, 5, none⟩ = some (.int .i64 a2_5)) (ds := []) #[false, false, false, false, false, false, false, false, false, false, false, false] (by kernel_rfl) rfl rfl ⟨(blk_cell BK216.out 0).trans rfl, (blk_cell BK216.out 1).trans rfl, (blk_cell BK216.out 2).trans rfl, (blk_cell BK216.out 3).trans rfl, (blk_cell BK216.out 4).trans rfl, (blk_cell BK216.out 5).trans rfl⟩ (fun hHeld => ?_); refine with_tabW backreachlaw06_TermParts.tab9 backreachlaw06_TermParts.bits9 (fun HT_ HW_ => ?_)
              generalize wc.drew = w54 at BK216 HB hHeld ⊢
              refine pure_ (i := 1) (N := some 66) (v := ?_) (a' := ?_) #[false, true, false, false, false, false, false, false, false, false, false, false] rfl rfl (any_of HT_.out (by kernel_rfl)) (fun _ _ _ h => h) (Or.inl ⟨by rfl, ?_⟩) ?_ ?_
              rotate_left
              ·
               intro w'
               go_simp
               with_reducible rfl
              rotate_left
              ·
               simp only [Act.put, List.setIfInBounds_toArray, List.set_cons_zero, List.set_cons_succ, i64_w, i32_w]
               rfl
              refine take_ (i := 3) (N := some 68) (v := ?_) (a' := ?_) #[false, true, false, true, false, false, false, false, false, false, false, false] rfl rfl (take_ofW HT_.out HW_.out (by kernel_rfl)) (fun _ _ _ h => h) (Or.inl ⟨by rfl, ?_⟩) hHeld ?_ ?_
              rotate_left
              ·
               rintro w' ⟨s0, s1, s2, s3, s4, s5⟩
               go_simp
               with_reducible rfl
              rotate_left
              ·
               simp only [Act.put, List.setIfInBounds_toArray, List.set_cons_zero, List.set_cons_succ, i64_w, i32_w]
               rfl
              refine join_ (σ := Value × Value × Value) 7 #[true, true, true, true, true, false, false, false, false, false, false, false] (fun s_ => [(65, s_.1), (67, s_.2.1), (69, s_.2.2)]) (fun s_ w' => (w'.cell? ⟨gb216, 0, none⟩ = some (.int .i64 a2_0) ∧ w'.cell? ⟨gb216, 1, none⟩ = some (.int .i64 a2_1) ∧ w'.cell? ⟨gb216, 2, none⟩ = some (.int .u64 a2_2) ∧ w'.cell? ⟨gb216, 3, none⟩ = some (.int .i64 a2_3) ∧ w'.cell? ⟨gb216, 4, none⟩ = some (.int .i64 a2_4) ∧ w'.cell? ⟨gb216, 5, none⟩ = some (.int .i64 a2_5)) ∧ (Kd.R k32 32 w' w.heap.size (fun k_ => some k_ ≠ (s_.2.2 : Value).ownBlock ∧ k_ ≠ gb216) s_.2.1 y229) ∧ (Kd.R k32 32 w' w.heap.size (fun k_ => some k_ ≠ (s_.2.1 : Value).ownBlock ∧ k_ ≠ gb216) s_.2.2 y232) ∧ (w'.heap[gb216]? = some (.cells #[.int .i64 a2_0, .int .i64 a2_1, .int .u64 a2_2, .int .i64 a2_3, .int .i64 a2_4, .int .i64 a2_5] 32 (0, 0))) ∧ (Below w.heap.size w w')) ?_ ?_
              rotate_left
              ·
               intro hCont
               refine two_ (i := 0) (j := 4) (Ni := some 65) (Nj := some 69) #[true, true, false, true, false, false, false, false, false, false, false, false] #[false, true, false, true, true, false, false, false, false, false, false, false] rfl rfl rfl rfl (two_of HT_.out (by kernel_rfl)) (by decide) (by decide) (fun K hK => ?_) (fun K hK => ?_)
               ·
                skip
                refine Kd.R_lit_step k32 _ 32 ?hg (N := 65) ?hd (xs := ([] : List (S32))) (inner := []) (ok := fun _ => True) (okp := fun _ => True) ?hr ?hp (fun _ hk => hk) trivial (Below.refl _ _) (Nat.le_refl _) (by simp) ?_; (case hd => rfl); (case hg => rfl); (case hr => first | (go_simp; done) | (go_simp; rfl)); (case hp => exact (Reps.none _ _))
                intro v227 w55 ho56 hb hg_ hnew_
                clear hg_ hnew_
                (first | rw [← Ny226.out] at ho56 | (simp only [Int.reduceToNat] at ho56; rw [← Ny226.out] at ho56))
                have n0_ := Aside0.mk (Kd.R_lower (Kd.R_newB ho56 (g := gb216) (o := .cells #[.int .i64 a2_0, .int .i64 a2_1, .int .u64 a2_2, .int .i64 a2_3, .int .i64 a2_4, .int .i64 a2_5] 32 (0, 0)) (by (with_reducible repeat (first | refine blk_drewN ?_ _ | refine blk_drew ?_ | refine blk_alloc ?_ _)); exact BK216.out)) (below_size (by repeat (first | (with_reducible first | exact HB.out | apply below_alloc | apply pw_below_drewN | apply below_drew1 | refine below_set ?_ GE216.out) | exact HB.out))))
                have n1_ := Aside0.mk (blk_below (g := gb216) (o := .cells #[.int .i64 a2_0, .int .i64 a2_1, .int .u64 a2_2, .int .i64 a2_3, .int .i64 a2_4, .int .i64 a2_5] 32 (0, 0)) (by (with_reducible repeat (first | refine blk_drewN ?_ _ | refine blk_drew ?_ | refine blk_alloc ?_ _)); exact BK216.out) hb)
                have n2_ := Aside0.mk (below_step (by repeat (first | (with_reducible first | exact HB.out | apply below_alloc | apply pw_below_drewN | apply below_drew1 | refine below_set ?_ GE216.out) | exact HB.out)) hb)
                clear BK216 HB
                have HO228 := n0_
                have BK216 := n1_
                have HB := n2_
                clear n0_ n1_ n2_ hb ho56
                refine hK.out _ _ ⟨(blk_cell BK216.out 0).trans rfl, (blk_cell BK216.out 1).trans rfl, (blk_cell BK216.out 2).trans rfl, (blk_cell BK216.out 3).trans rfl, (blk_cell BK216.out 4).trans rfl, (blk_cell BK216.out 5).trans rfl⟩ (fun hHeld => ?_)
                clear hK K
                refine norm_ (a' := ?_) ?_ ?_
                rotate_left
                ·
                 show Act.put _ (some 65) _ = _
                 simp only [Act.put, List.setIfInBounds_toArray, List.set_cons_zero, List.set_cons_succ, i64_w, i32_w]
                 rfl
                refine two_ (i := 2) (j := 4) (Ni := some 67) (Nj := some 69) #[true, true, true, true, false, false, false, false, false, false, false, false] #[true, true, false, true, true, false, false, false, false, false, false, false] rfl rfl rfl rfl (two_of HT_.out (by kernel_rfl)) (by decide) (by decide) (fun K hK => ?_) (fun K hK => ?_)
                ·
                 skip
                 refine Kd.R_append_rows_step k32 (w0 := w) w.heap.size (by rfl) (.tmp 65) (.tmp 66) 22 32 (.agg #[(.int .i64 0), (.int .i64 0), (.int .u64 0), (.int .i64 0), (.int .i64 0), (.int .i64 0)]) 48 rfl Try.underlying22 info32 rfl (by decide) (by omega) v227 y226 l0 _ _ _ (fun k_ => k_ ≠ gb216) (fun _ => False) rfl rfl ?aO ?aR (fun _ _ h => h) (fun _ h => h.elim) ?aF ?aB ?aS ?aL ?_
                 (case aR => repeat (first | exact (Kd.C_below HR0.out HB.out) | (with_reducible refine Kd.C_alloc ?_ _) | (with_reducible refine Kd.C_drewN ?_ _) | (with_reducible refine Kd.C_drew ?_)))
                 (case aB => exact (by repeat (first | (with_reducible first | exact HB.out | apply below_alloc | apply pw_below_drewN | apply below_drew1 | refine below_set ?_ GE216.out) | exact HB.out)))
                 (case aF => exact (fun k_ hk => Kd.freshB (g := gb216) (o := .cells #[.int .i64 a2_0, .int .i64 a2_1, .int .u64 a2_2, .int .i64 a2_3, .int .i64 a2_4, .int .i64 a2_5] 32 (0, 0)) (by (with_reducible repeat (first | refine blk_drewN ?_ _ | refine blk_drew ?_ | refine blk_alloc ?_ _)); exact BK216.out) k_ hk))
                 (case aO => exact (by (with_reducible repeat (first | apply Kd.R_alloc | apply Kd.R_drewN | apply Kd.R_drew)); exact Kd.R_mono HO228.out (fun _ hk => hk.2)))
                 (case aS => exact (below_size (by repeat (first | (with_reducible first | exact HB.out | apply below_alloc | apply pw_below_drewN | apply below_drew1 | refine below_set ?_ GE216.out) | exact HB.out))))
                 (case aL => have := LMc26.out; omega)
                 intro v230 w57 ho hb hg hat
                 rw [← Ny229.out] at ho
                 have n0_ := Aside0.mk (blk_grown (g := gb216) (o := .cells #[.int .i64 a2_0, .int .i64 a2_1, .int .u64 a2_2, .int .i64 a2_3, .int .i64 a2_4, .int .i64 a2_5] 32 (0, 0)) (by (with_reducible repeat (first | refine blk_drewN ?_ _ | refine blk_drew ?_ | refine blk_alloc ?_ _)); exact BK216.out) hg (Kd.R_away HO228.out (fun _ hk => hk.2)))
                 have n1_ := Aside0.mk (hb)
                 have n2_ := Aside0.mk (ho)
                 clear BK216 HB HO228
                 have BK216 := n0_
                 have HB := n1_
                 have HO231 := n2_
                 clear n0_ n1_ n2_ ho hb hg hat
                 refine hK.out _ _ ⟨(blk_cell BK216.out 0).trans rfl, (blk_cell BK216.out 1).trans rfl, (blk_cell BK216.out 2).trans rfl, (blk_cell BK216.out 3).trans rfl, (blk_cell BK216.out 4).trans rfl, (blk_cell BK216.out 5).trans rfl⟩ (fun hHeld => ?_)
                 clear hK K
                 refine norm_ (a' := ?_) ?_ ?_
                 rotate_left
                 ·
                  show Act.put _ (some 67) _ = _
                  simp only [Act.put, List.setIfInBounds_toArray, List.set_cons_zero, List.set_cons_succ, i64_w, i32_w]
                  rfl
                 refine one_ (i := 4) (N := some 69) #[true, true, true, true, true, false, false, false, false, false, false, false] rfl rfl (one_of HT_.out (by kernel_rfl)) (by decide) (fun K hK => ?_)
                 refine Kd.R_lit_step k32 _ 32 ?hg (N := 69) ?hd (xs := ([(⟨a2_0, a2_1, a2_2, (⟨a2_3, a2_4, a2_5⟩ : S30)⟩ : S32)] : List (S32))) (inner := [.int .i64 a2_0, .int .i64 a2_1, .int .u64 a2_2, .int .i64 a2_3, .int .i64 a2_4, .int .i64 a2_5]) (ok := fun _ => True) (okp := fun _ => True) ?hr ?hp (fun _ hk => hk) trivial (Below.refl _ _) (Nat.le_refl _) (by simp) ?_; (case hd => rfl); (case hg => rfl); (case hr => first | (go_simp; done) | (go_simp; rfl)); (case hp => exact (Reps.c6 (show Kd.M k32 _ _ _ (⟨a2_0, a2_1, a2_2, (⟨a2_3, a2_4, a2_5⟩ : S30)⟩ : S32) [.int .i64 a2_0, .int .i64 a2_1, .int .u64 a2_2, .int .i64 a2_3, .int .i64 a2_4, .int .i64 a2_5] from (k32_mkM _ _ _ (⟨a2_0, a2_1, a2_2, (⟨a2_3, a2_4, a2_5⟩ : S30)⟩ : S32) )) (Reps.none _ _)))
                 intro v233 w58 ho59 hb hg_ hnew_
                 clear hg_ hnew_
                 (first | rw [← Ny232.out] at ho59 | (simp only [Int.reduceToNat] at ho59; rw [← Ny232.out] at ho59))
                 have n0_ := Aside0.mk (Kd.R_elder' (by (with_reducible repeat (first | apply Kd.R_alloc | apply Kd.R_drewN | apply Kd.R_drew)); exact HO231.out) (Kd.R_base ho59) hb)
                 have n1_ := Aside0.mk (Kd.R_lower (Kd.R_newB (Kd.R_new' ho59 (Kd.R_lt (by (with_reducible repeat (first | apply Kd.R_alloc | apply Kd.R_drewN | apply Kd.R_drew)); exact HO231.out))) (g := gb216) (o := .cells #[.int .i64 a2_0, .int .i64 a2_1, .int .u64 a2_2, .int .i64 a2_3, .int .i64 a2_4, .int .i64 a2_5] 32 (0, 0)) (by (with_reducible repeat (first | refine blk_drewN ?_ _ | refine blk_drew ?_ | refine blk_alloc ?_ _)); exact BK216.out)) (below_size (by repeat (first | (with_reducible first | exact HB.out | apply below_alloc | apply pw_below_drewN | apply below_drew1 | refine below_set ?_ GE216.out) | exact HB.out))))
                 have n2_ := Aside0.mk (blk_below (g := gb216) (o := .cells #[.int .i64 a2_0, .int .i64 a2_1, .int .u64 a2_2, .int .i64 a2_3, .int .i64 a2_4, .int .i64 a2_5] 32 (0, 0)) (by (with_reducible repeat (first | refine blk_drewN ?_ _ | refine blk_drew ?_ | refine blk_alloc ?_ _)); exact BK216.out) hb)
                 have n3_ := Aside0.mk (below_step (by repeat (first | (with_reducible first | exact HB.out | apply below_alloc | apply pw_below_drewN | apply below_drew1 | refine below_set ?_ GE216.out) | exact HB.out)) hb)
                 clear HO231 BK216 HB
                 have HO231 := n0_
                 have HO234 := n1_
                 have BK216 := n2_
                 have HB := n3_
                 clear n0_ n1_ n2_ n3_ hb ho59
                 refine hK.out _ _ ⟨(blk_cell BK216.out 0).trans rfl, (blk_cell BK216.out 1).trans rfl, (blk_cell BK216.out 2).trans rfl, (blk_cell BK216.out 3).trans rfl, (blk_cell BK216.out 4).trans rfl, (blk_cell BK216.out 5).trans rfl⟩ (fun hHeld => ?_)
                 clear hK K
                 refine norm_ (a' := ?_) ?_ ?_
                 rotate_left
                 ·
                  show Act.put _ (some 69) _ = _
                  simp only [Act.put, List.setIfInBounds_toArray, List.set_cons_zero, List.set_cons_succ, i64_w, i32_w]
                  rfl
                 exact norm_ (by simp only [putAll, Act.put, List.setIfInBounds_toArray, List.set_cons_zero, List.set_cons_succ]) (hCont (v227, v230, v233) _ ⟨hHeld, (by (with_reducible repeat (first | apply Kd.R_alloc | apply Kd.R_drewN | apply Kd.R_drew)); exact Kd.R_mono HO231.out (fun _ hk => ⟨hk.2, hk.1⟩)), (by (with_reducible repeat (first | apply Kd.R_alloc | apply Kd.R_drewN | apply Kd.R_drew)); exact Kd.R_mono HO234.out (fun _ hk => ⟨hk.1.2, hk.2⟩)), (by (with_reducible repeat (first | refine blk_drewN ?_ _ | refine blk_drew ?_ | refine blk_alloc ?_ _)); exact BK216.out), (by repeat (first | (with_reducible first | exact HB.out | apply below_alloc | apply pw_below_drewN | apply below_drew1 | refine below_set ?_ GE216.out) | exact HB.out))⟩)
                ·
                 skip
                 refine Kd.R_lit_step k32 _ 32 ?hg (N := 69) ?hd (xs := ([(⟨a2_0, a2_1, a2_2, (⟨a2_3, a2_4, a2_5⟩ : S30)⟩ : S32)] : List (S32))) (inner := [.int .i64 a2_0, .int .i64 a2_1, .int .u64 a2_2, .int .i64 a2_3, .int .i64 a2_4, .int .i64 a2_5]) (ok := fun _ => True) (okp := fun _ => True) ?hr ?hp (fun _ hk => hk) trivial (Below.refl _ _) (Nat.le_refl _) (by simp) ?_; (case hd => rfl); (case hg => rfl); (case hr => first | (go_simp; done) | (go_simp; rfl)); (case hp => exact (Reps.c6 (show Kd.M k32 _ _ _ (⟨a2_0, a2_1, a2_2, (⟨a2_3, a2_4, a2_5⟩ : S30)⟩ : S32) [.int .i64 a2_0, .int .i64 a2_1, .int .u64 a2_2, .int .i64 a2_3, .int .i64 a2_4, .int .i64 a2_5] from (k32_mkM _ _ _ (⟨a2_0, a2_1, a2_2, (⟨a2_3, a2_4, a2_5⟩ : S30)⟩ : S32) )) (Reps.none _ _)))
                 intro v233 w57 ho58 hb hg_ hnew_
                 clear hg_ hnew_
                 (first | rw [← Ny232.out] at ho58 | (simp only [Int.reduceToNat] at ho58; rw [← Ny232.out] at ho58))
                 have n0_ := Aside0.mk (Kd.R_elder' (by (with_reducible repeat (first | apply Kd.R_alloc | apply Kd.R_drewN | apply Kd.R_drew)); exact HO228.out) (Kd.R_base ho58) hb)
                 have n1_ := Aside0.mk (Kd.R_lower (Kd.R_newB (Kd.R_new' ho58 (Kd.R_lt (by (with_reducible repeat (first | apply Kd.R_alloc | apply Kd.R_drewN | apply Kd.R_drew)); exact HO228.out))) (g := gb216) (o := .cells #[.int .i64 a2_0, .int .i64 a2_1, .int .u64 a2_2, .int .i64 a2_3, .int .i64 a2_4, .int .i64 a2_5] 32 (0, 0)) (by (with_reducible repeat (first | refine blk_drewN ?_ _ | refine blk_drew ?_ | refine blk_alloc ?_ _)); exact BK216.out)) (below_size (by repeat (first | (with_reducible first | exact HB.out | apply below_alloc | apply pw_below_drewN | apply below_drew1 | refine below_set ?_ GE216.out) | exact HB.out))))
                 have n2_ := Aside0.mk (blk_below (g := gb216) (o := .cells #[.int .i64 a2_0, .int .i64 a2_1, .int .u64 a2_2, .int .i64 a2_3, .int .i64 a2_4, .int .i64 a2_5] 32 (0, 0)) (by (with_reducible repeat (first | refine blk_drewN ?_ _ | refine blk_drew ?_ | refine blk_alloc ?_ _)); exact BK216.out) hb)
                 have n3_ := Aside0.mk (below_step (by repeat (first | (with_reducible first | exact HB.out | apply below_alloc | apply pw_below_drewN | apply below_drew1 | refine below_set ?_ GE216.out) | exact HB.out)) hb)
                 clear HO228 BK216 HB
                 have HO228 := n0_
                 have HO234 := n1_
                 have BK216 := n2_
                 have HB := n3_
                 clear n0_ n1_ n2_ n3_ hb ho58
                 refine hK.out _ _ ⟨(blk_cell BK216.out 0).trans rfl, (blk_cell BK216.out 1).trans rfl, (blk_cell BK216.out 2).trans rfl, (blk_cell BK216.out 3).trans rfl, (blk_cell BK216.out 4).trans rfl, (blk_cell BK216.out 5).trans rfl⟩ (fun hHeld => ?_)
                 clear hK K
                 refine norm_ (a' := ?_) ?_ ?_
                 rotate_left
                 ·
                  show Act.put _ (some 69) _ = _
                  simp only [Act.put, List.setIfInBounds_toArray, List.set_cons_zero, List.set_cons_succ, i64_w, i32_w]
                  rfl
                 refine one_ (i := 2) (N := some 67) #[true, true, true, true, true, false, false, false, false, false, false, false] rfl rfl (one_of HT_.out (by kernel_rfl)) (by decide) (fun K hK => ?_)
                 refine Kd.R_append_rows_step k32 (w0 := w) w.heap.size (by rfl) (.tmp 65) (.tmp 66) 22 32 (.agg #[(.int .i64 0), (.int .i64 0), (.int .u64 0), (.int .i64 0), (.int .i64 0), (.int .i64 0)]) 48 rfl Try.underlying22 info32 rfl (by decide) (by omega) v227 y226 l0 _ _ _ (fun k_ => some k_ ≠ (v233 : Value).ownBlock ∧ k_ ≠ gb216) (fun _ => False) rfl rfl ?aO ?aR (fun _ _ h => h) (fun _ h => h.elim) ?aF ?aB ?aS ?aL ?_
                 (case aR => repeat (first | exact (Kd.C_below HR0.out HB.out) | (with_reducible refine Kd.C_alloc ?_ _) | (with_reducible refine Kd.C_drewN ?_ _) | (with_reducible refine Kd.C_drew ?_)))
                 (case aB => exact (by repeat (first | (with_reducible first | exact HB.out | apply below_alloc | apply pw_below_drewN | apply below_drew1 | refine below_set ?_ GE216.out) | exact HB.out)))
                 (case aF => exact (fun k_ hk => ⟨Kd.fresh' (Kd.R_lt (by (with_reducible repeat (first | apply Kd.R_alloc | apply Kd.R_drewN | apply Kd.R_drew)); exact HO234.out)) k_ hk, Kd.freshB (g := gb216) (o := .cells #[.int .i64 a2_0, .int .i64 a2_1, .int .u64 a2_2, .int .i64 a2_3, .int .i64 a2_4, .int .i64 a2_5] 32 (0, 0)) (by (with_reducible repeat (first | refine blk_drewN ?_ _ | refine blk_drew ?_ | refine blk_alloc ?_ _)); exact BK216.out) k_ hk⟩))
                 (case aO => exact (by (with_reducible repeat (first | apply Kd.R_alloc | apply Kd.R_drewN | apply Kd.R_drew)); exact Kd.R_mono HO228.out (fun _ hk => ⟨hk.2, hk.1.2⟩)))
                 (case aS => exact (below_size (by repeat (first | (with_reducible first | exact HB.out | apply below_alloc | apply pw_below_drewN | apply below_drew1 | refine below_set ?_ GE216.out) | exact HB.out))))
                 (case aL => have := LMc26.out; omega)
                 intro v230 w59 ho hb hg hat
                 rw [← Ny229.out] at ho
                 have n0_ := Aside0.mk (blk_grown (g := gb216) (o := .cells #[.int .i64 a2_0, .int .i64 a2_1, .int .u64 a2_2, .int .i64 a2_3, .int .i64 a2_4, .int .i64 a2_5] 32 (0, 0)) (by (with_reducible repeat (first | refine blk_drewN ?_ _ | refine blk_drew ?_ | refine blk_alloc ?_ _)); exact BK216.out) hg (Kd.R_away HO228.out (fun _ hk => hk.1.2)))
                 have n1_ := Aside0.mk (Kd.R_after (ok := (fun k_ => k_ ≠ gb216)) (by (with_reducible repeat (first | apply Kd.R_alloc | apply Kd.R_drewN | apply Kd.R_drew)); exact Kd.R_mono HO234.out (fun _ hk => ⟨hk.2, hk.1.2⟩)) hg hat)
                 have n2_ := Aside0.mk (hb)
                 have n3_ := Aside0.mk (ho)
                 clear BK216 HO234 HB HO228
                 have BK216 := n0_
                 have HO234 := n1_
                 have HB := n2_
                 have HO231 := n3_
                 clear n0_ n1_ n2_ n3_ ho hb hg hat
                 refine hK.out _ _ ⟨(blk_cell BK216.out 0).trans rfl, (blk_cell BK216.out 1).trans rfl, (blk_cell BK216.out 2).trans rfl, (blk_cell BK216.out 3).trans rfl, (blk_cell BK216.out 4).trans rfl, (blk_cell BK216.out 5).trans rfl⟩ (fun hHeld => ?_)
                 clear hK K
                 refine norm_ (a' := ?_) ?_ ?_
                 rotate_left
                 ·
                  show Act.put _ (some 67) _ = _
                  simp only [Act.put, List.setIfInBounds_toArray, List.set_cons_zero, List.set_cons_succ, i64_w, i32_w]
                  rfl
                 exact norm_ (by simp only [putAll, Act.put, List.setIfInBounds_toArray, List.set_cons_zero, List.set_cons_succ]) (hCont (v227, v230, v233) _ ⟨hHeld, (by (with_reducible repeat (first | apply Kd.R_alloc | apply Kd.R_drewN | apply Kd.R_drew)); exact HO231.out), (by (with_reducible repeat (first | apply Kd.R_alloc | apply Kd.R_drewN | apply Kd.R_drew)); exact Kd.R_mono HO234.out (fun _ hk => ⟨hk.2, hk.1⟩)), (by (with_reducible repeat (first | refine blk_drewN ?_ _ | refine blk_drew ?_ | refine blk_alloc ?_ _)); exact BK216.out), (by repeat (first | (with_reducible first | exact HB.out | apply below_alloc | apply pw_below_drewN | apply below_drew1 | refine below_set ?_ GE216.out) | exact HB.out))⟩)
               ·
                skip
                refine Kd.R_lit_step k32 _ 32 ?hg (N := 69) ?hd (xs := ([(⟨a2_0, a2_1, a2_2, (⟨a2_3, a2_4, a2_5⟩ : S30)⟩ : S32)] : List (S32))) (inner := [.int .i64 a2_0, .int .i64 a2_1, .int .u64 a2_2, .int .i64 a2_3, .int .i64 a2_4, .int .i64 a2_5]) (ok := fun _ => True) (okp := fun _ => True) ?hr ?hp (fun _ hk => hk) trivial (Below.refl _ _) (Nat.le_refl _) (by simp) ?_; (case hd => rfl); (case hg => rfl); (case hr => first | (go_simp; done) | (go_simp; rfl)); (case hp => exact (Reps.c6 (show Kd.M k32 _ _ _ (⟨a2_0, a2_1, a2_2, (⟨a2_3, a2_4, a2_5⟩ : S30)⟩ : S32) [.int .i64 a2_0, .int .i64 a2_1, .int .u64 a2_2, .int .i64 a2_3, .int .i64 a2_4, .int .i64 a2_5] from (k32_mkM _ _ _ (⟨a2_0, a2_1, a2_2, (⟨a2_3, a2_4, a2_5⟩ : S30)⟩ : S32) )) (Reps.none _ _)))
                intro v233 w55 ho56 hb hg_ hnew_
                clear hg_ hnew_
                (first | rw [← Ny232.out] at ho56 | (simp only [Int.reduceToNat] at ho56; rw [← Ny232.out] at ho56))
                have n0_ := Aside0.mk (Kd.R_lower (Kd.R_newB ho56 (g := gb216) (o := .cells #[.int .i64 a2_0, .int .i64 a2_1, .int .u64 a2_2, .int .i64 a2_3, .int .i64 a2_4, .int .i64 a2_5] 32 (0, 0)) (by (with_reducible repeat (first | refine blk_drewN ?_ _ | refine blk_drew ?_ | refine blk_alloc ?_ _)); exact BK216.out)) (below_size (by repeat (first | (with_reducible first | exact HB.out | apply below_alloc | apply pw_below_drewN | apply below_drew1 | refine below_set ?_ GE216.out) | exact HB.out))))
                have n1_ := Aside0.mk (blk_below (g := gb216) (o := .cells #[.int .i64 a2_0, .int .i64 a2_1, .int .u64 a2_2, .int .i64 a2_3, .int .i64 a2_4, .int .i64 a2_5] 32 (0, 0)) (by (with_reducible repeat (first | refine blk_drewN ?_ _ | refine blk_drew ?_ | refine blk_alloc ?_ _)); exact BK216.out) hb)
                have n2_ := Aside0.mk (below_step (by repeat (first | (with_reducible first | exact HB.out | apply below_alloc | apply pw_below_drewN | apply below_drew1 | refine below_set ?_ GE216.out) | exact HB.out)) hb)
                clear BK216 HB
                have HO234 := n0_
                have BK216 := n1_
                have HB := n2_
                clear n0_ n1_ n2_ hb ho56
                refine hK.out _ _ ⟨(blk_cell BK216.out 0).trans rfl, (blk_cell BK216.out 1).trans rfl, (blk_cell BK216.out 2).trans rfl, (blk_cell BK216.out 3).trans rfl, (blk_cell BK216.out 4).trans rfl, (blk_cell BK216.out 5).trans rfl⟩ (fun hHeld => ?_)
                clear hK K
                refine norm_ (a' := ?_) ?_ ?_
                rotate_left
                ·
                 show Act.put _ (some 69) _ = _
                 simp only [Act.put, List.setIfInBounds_toArray, List.set_cons_zero, List.set_cons_succ, i64_w, i32_w]
                 rfl
                refine one_ (i := 0) (N := some 65) #[true, true, false, true, true, false, false, false, false, false, false, false] rfl rfl (one_of HT_.out (by kernel_rfl)) (by decide) (fun K hK => ?_)
                refine Kd.R_lit_step k32 _ 32 ?hg (N := 65) ?hd (xs := ([] : List (S32))) (inner := []) (ok := fun _ => True) (okp := fun _ => True) ?hr ?hp (fun _ hk => hk) trivial (Below.refl _ _) (Nat.le_refl _) (by simp) ?_; (case hd => rfl); (case hg => rfl); (case hr => first | (go_simp; done) | (go_simp; rfl)); (case hp => exact (Reps.none _ _))
                intro v227 w57 ho58 hb hg_ hnew_
                clear hg_ hnew_
                (first | rw [← Ny226.out] at ho58 | (simp only [Int.reduceToNat] at ho58; rw [← Ny226.out] at ho58))
                have n0_ := Aside0.mk (Kd.R_elder' (by (with_reducible repeat (first | apply Kd.R_alloc | apply Kd.R_drewN | apply Kd.R_drew)); exact HO234.out) (Kd.R_base ho58) hb)
                have n1_ := Aside0.mk (Kd.R_lower (Kd.R_newB (Kd.R_new' ho58 (Kd.R_lt (by (with_reducible repeat (first | apply Kd.R_alloc | apply Kd.R_drewN | apply Kd.R_drew)); exact HO234.out))) (g := gb216) (o := .cells #[.int .i64 a2_0, .int .i64 a2_1, .int .u64 a2_2, .int .i64 a2_3, .int .i64 a2_4, .int .i64 a2_5] 32 (0, 0)) (by (with_reducible repeat (first | refine blk_drewN ?_ _ | refine blk_drew ?_ | refine blk_alloc ?_ _)); exact BK216.out)) (below_size (by repeat (first | (with_reducible first | exact HB.out | apply below_alloc | apply pw_below_drewN | apply below_drew1 | refine below_set ?_ GE216.out) | exact HB.out))))
                have n2_ := Aside0.mk (blk_below (g := gb216) (o := .cells #[.int .i64 a2_0, .int .i64 a2_1, .int .u64 a2_2, .int .i64 a2_3, .int .i64 a2_4, .int .i64 a2_5] 32 (0, 0)) (by (with_reducible repeat (first | refine blk_drewN ?_ _ | refine blk_drew ?_ | refine blk_alloc ?_ _)); exact BK216.out) hb)
                have n3_ := Aside0.mk (below_step (by repeat (first | (with_reducible first | exact HB.out | apply below_alloc | apply pw_below_drewN | apply below_drew1 | refine below_set ?_ GE216.out) | exact HB.out)) hb)
                clear HO234 BK216 HB
                have HO234 := n0_
                have HO228 := n1_
                have BK216 := n2_
                have HB := n3_
                clear n0_ n1_ n2_ n3_ hb ho58
                refine hK.out _ _ ⟨(blk_cell BK216.out 0).trans rfl, (blk_cell BK216.out 1).trans rfl, (blk_cell BK216.out 2).trans rfl, (blk_cell BK216.out 3).trans rfl, (blk_cell BK216.out 4).trans rfl, (blk_cell BK216.out 5).trans rfl⟩ (fun hHeld => ?_)
                clear hK K
                refine norm_ (a' := ?_) ?_ ?_
                rotate_left
                ·
                 show Act.put _ (some 65) _ = _
                 simp only [Act.put, List.setIfInBounds_toArray, List.set_cons_zero, List.set_cons_succ, i64_w, i32_w]
                 rfl
                refine one_ (i := 2) (N := some 67) #[true, true, true, true, true, false, false, false, false, false, false, false] rfl rfl (one_of HT_.out (by kernel_rfl)) (by decide) (fun K hK => ?_)
                refine Kd.R_append_rows_step k32 (w0 := w) w.heap.size (by rfl) (.tmp 65) (.tmp 66) 22 32 (.agg #[(.int .i64 0), (.int .i64 0), (.int .u64 0), (.int .i64 0), (.int .i64 0), (.int .i64 0)]) 48 rfl Try.underlying22 info32 rfl (by decide) (by omega) v227 y226 l0 _ _ _ (fun k_ => some k_ ≠ (v233 : Value).ownBlock ∧ k_ ≠ gb216) (fun _ => False) rfl rfl ?aO ?aR (fun _ _ h => h) (fun _ h => h.elim) ?aF ?aB ?aS ?aL ?_
                (case aR => repeat (first | exact (Kd.C_below HR0.out HB.out) | (with_reducible refine Kd.C_alloc ?_ _) | (with_reducible refine Kd.C_drewN ?_ _) | (with_reducible refine Kd.C_drew ?_)))
                (case aB => exact (by repeat (first | (with_reducible first | exact HB.out | apply below_alloc | apply pw_below_drewN | apply below_drew1 | refine below_set ?_ GE216.out) | exact HB.out)))
                (case aF => exact (fun k_ hk => ⟨Kd.fresh' (Kd.R_lt (by (with_reducible repeat (first | apply Kd.R_alloc | apply Kd.R_drewN | apply Kd.R_drew)); exact HO234.out)) k_ hk, Kd.freshB (g := gb216) (o := .cells #[.int .i64 a2_0, .int .i64 a2_1, .int .u64 a2_2, .int .i64 a2_3, .int .i64 a2_4, .int .i64 a2_5] 32 (0, 0)) (by (with_reducible repeat (first | refine blk_drewN ?_ _ | refine blk_drew ?_ | refine blk_alloc ?_ _)); exact BK216.out) k_ hk⟩))
                (case aO => exact (by (with_reducible repeat (first | apply Kd.R_alloc | apply Kd.R_drewN | apply Kd.R_drew)); exact Kd.R_mono HO228.out (fun _ hk => ⟨hk.1.2, hk.2⟩)))
                (case aS => exact (below_size (by repeat (first | (with_reducible first | exact HB.out | apply below_alloc | apply pw_below_drewN | apply below_drew1 | refine below_set ?_ GE216.out) | exact HB.out))))
                (case aL => have := LMc26.out; omega)
                intro v230 w59 ho hb hg hat
                rw [← Ny229.out] at ho
                have n0_ := Aside0.mk (blk_grown (g := gb216) (o := .cells #[.int .i64 a2_0, .int .i64 a2_1, .int .u64 a2_2, .int .i64 a2_3, .int .i64 a2_4, .int .i64 a2_5] 32 (0, 0)) (by (with_reducible repeat (first | refine blk_drewN ?_ _ | refine blk_drew ?_ | refine blk_alloc ?_ _)); exact BK216.out) hg (Kd.R_away HO228.out (fun _ hk => hk.2)))
                have n1_ := Aside0.mk (Kd.R_after (ok := (fun k_ => k_ ≠ gb216)) (by (with_reducible repeat (first | apply Kd.R_alloc | apply Kd.R_drewN | apply Kd.R_drew)); exact Kd.R_mono HO234.out (fun _ hk => ⟨hk.1.2, hk.2⟩)) hg hat)
                have n2_ := Aside0.mk (hb)
                have n3_ := Aside0.mk (ho)
                clear BK216 HO234 HB HO228
                have BK216 := n0_
                have HO234 := n1_
                have HB := n2_
                have HO231 := n3_
                clear n0_ n1_ n2_ n3_ ho hb hg hat
                refine hK.out _ _ ⟨(blk_cell BK216.out 0).trans rfl, (blk_cell BK216.out 1).trans rfl, (blk_cell BK216.out 2).trans rfl, (blk_cell BK216.out 3).trans rfl, (blk_cell BK216.out 4).trans rfl, (blk_cell BK216.out 5).trans rfl⟩ (fun hHeld => ?_)
                clear hK K
                refine norm_ (a' := ?_) ?_ ?_
                rotate_left
                ·
                 show Act.put _ (some 67) _ = _
                 simp only [Act.put, List.setIfInBounds_toArray, List.set_cons_zero, List.set_cons_succ, i64_w, i32_w]
                 rfl
                exact norm_ (by simp only [putAll, Act.put, List.setIfInBounds_toArray, List.set_cons_zero, List.set_cons_succ]) (hCont (v227, v230, v233) _ ⟨hHeld, (by (with_reducible repeat (first | apply Kd.R_alloc | apply Kd.R_drewN | apply Kd.R_drew)); exact HO231.out), (by (with_reducible repeat (first | apply Kd.R_alloc | apply Kd.R_drewN | apply Kd.R_drew)); exact Kd.R_mono HO234.out (fun _ hk => ⟨hk.2, hk.1⟩)), (by (with_reducible repeat (first | refine blk_drewN ?_ _ | refine blk_drew ?_ | refine blk_alloc ?_ _)); exact BK216.out), (by repeat (first | (with_reducible first | exact HB.out | apply below_alloc | apply pw_below_drewN | apply below_drew1 | refine below_set ?_ GE216.out) | exact HB.out))⟩)
              rintro ⟨v227, v230, v233⟩ w60 ⟨hS_, h0_, h1_, h2_, h3_⟩
              have n0_ : Aside0 (Kd.R k32 32 w60 w.heap.size (fun k_ => some k_ ≠ (v233 : Value).ownBlock ∧ k_ ≠ gb216) v230 y229) := ⟨h0_⟩
              have n1_ : Aside0 (Kd.R k32 32 w60 w.heap.size (fun k_ => some k_ ≠ (v230 : Value).ownBlock ∧ k_ ≠ gb216) v233 y232) := ⟨h1_⟩
              have n2_ : Aside0 (w60.heap[gb216]? = some (.cells #[.int .i64 a2_0, .int .i64 a2_1, .int .u64 a2_2, .int .i64 a2_3, .int .i64 a2_4, .int .i64 a2_5] 32 (0, 0))) := ⟨h2_⟩
              have n3_ : Aside0 (Below w.heap.size w w60) := ⟨h3_⟩
              clear BK216 HB h0_ h1_ h2_ h3_
              have HO231 := n0_
              have HO234 := n1_
              have BK216 := n2_
              have HB := n3_
              clear n0_ n1_ n2_ n3_
              have hHeld : w60.cell? ⟨gb216, 0, none⟩ = some (.int .i64 a2_0) ∧ w60.cell? ⟨gb216, 1, none⟩ = some (.int .i64 a2_1) ∧ w60.cell? ⟨gb216, 2, none⟩ = some (.int .u64 a2_2) ∧ w60.cell? ⟨gb216, 3, none⟩ = some (.int .i64 a2_3) ∧ w60.cell? ⟨gb216, 4, none⟩ = some (.int .i64 a2_4) ∧ w60.cell? ⟨gb216, 5, none⟩ = some (.int .i64 a2_5) := hS_
              obtain ⟨Ao62, co62, eo62⟩ := Kd.R_slice HO234.out
              (first | subst eo62 | (injection eo62 with f1_ f2_ f3_; have f4_ := f1_.symm; have f5_ := f3_.symm; clear f1_ f2_ f3_; subst f4_; subst f5_))
              refine norm_ (a' := ?_) ?_ ?_
              rotate_left
              ·
               simp only [putAll, Act.put, List.setIfInBounds_toArray, List.set_cons_zero, List.set_cons_succ]
               rfl
              refine one_ (i := 5) (N := some 70) #[true, true, true, true, true, true, false, false, false, false, false, false] rfl rfl (one_of HT_.out (by kernel_rfl)) (by decide) (fun K hK => ?_)
              refine Kd.R_append_rows_step k32 (w0 := w) w.heap.size (by rfl) (.tmp 67) (.tmp 69) 22 32 (.agg #[(.int .i64 0), (.int .i64 0), (.int .u64 0), (.int .i64 0), (.int .i64 0), (.int .i64 0)]) 48 rfl Try.underlying22 info32 rfl (by decide) (by omega) v230 y229 y232 _ _ _ (fun k_ => some k_ ≠ (.slice Ao62 y232.length co62 : Value).ownBlock ∧ k_ ≠ gb216) (fun _ => False) rfl rfl ?aO ?aR (fun _ _ h => h) (fun _ h => h.elim) ?aF ?aB ?aS ?aL ?_
              (case aR => repeat (first | exact (Kd.R_reads' HO234.out).2.2 | (with_reducible refine Kd.C_alloc ?_ _) | (with_reducible refine Kd.C_drewN ?_ _) | (with_reducible refine Kd.C_drew ?_)))
              (case aB => exact (by repeat (first | (with_reducible first | exact HB.out | apply below_alloc | apply pw_below_drewN | apply below_drew1 | refine below_set ?_ GE216.out) | exact HB.out)))
              (case aF => exact (fun k_ hk => ⟨Kd.fresh' (Kd.R_lt (by (with_reducible repeat (first | apply Kd.R_alloc | apply Kd.R_drewN | apply Kd.R_drew)); exact HO234.out)) k_ hk, Kd.freshB (g := gb216) (o := .cells #[.int .i64 a2_0, .int .i64 a2_1, .int .u64 a2_2, .int .i64 a2_3, .int .i64 a2_4, .int .i64 a2_5] 32 (0, 0)) (by (with_reducible repeat (first | refine blk_drewN ?_ _ | refine blk_drew ?_ | refine blk_alloc ?_ _)); exact BK216.out) k_ hk⟩))
              (case aO => exact (by (with_reducible repeat (first | apply Kd.R_alloc | apply Kd.R_drewN | apply Kd.R_drew)); exact HO231.out))
              (case aS => exact (below_size (by repeat (first | (with_reducible first | exact HB.out | apply below_alloc | apply pw_below_drewN | apply below_drew1 | refine below_set ?_ GE216.out) | exact HB.out))))
              (case aL => have := LMc27.out; omega)
              intro v236 w61 ho hb hg hat
              rw [← Ny235.out] at ho
              have n0_ := Aside0.mk (blk_grown (g := gb216) (o := .cells #[.int .i64 a2_0, .int .i64 a2_1, .int .u64 a2_2, .int .i64 a2_3, .int .i64 a2_4, .int .i64 a2_5] 32 (0, 0)) (by (with_reducible repeat (first | refine blk_drewN ?_ _ | refine blk_drew ?_ | refine blk_alloc ?_ _)); exact BK216.out) hg (Kd.R_away HO231.out (fun _ hk => hk.2)))
              have n1_ := Aside0.mk (Kd.R_after (ok := (fun k_ => k_ ≠ gb216)) (by (with_reducible repeat (first | apply Kd.R_alloc | apply Kd.R_drewN | apply Kd.R_drew)); exact Kd.R_mono HO234.out (fun _ hk => ⟨hk.2, hk.1⟩)) hg hat)
              have n2_ := Aside0.mk (hb)
              have n3_ := Aside0.mk (ho)
              clear BK216 HO234 HB HO231
              have BK216 := n0_
              have HO234 := n1_
              have HB := n2_
              have HO237 := n3_
              clear n0_ n1_ n2_ n3_ ho hb hg hat
              obtain ⟨Ao63, co63, eo63⟩ := Kd.R_slice HO237.out
              (first | subst eo63 | (injection eo63 with f1_ f2_ f3_; have f4_ := f1_.symm; have f5_ := f3_.symm; clear f1_ f2_ f3_; subst f4_; subst f5_))
              refine hK.out _ _ ⟨(blk_cell BK216.out 0).trans rfl, (blk_cell BK216.out 1).trans rfl, (blk_cell BK216.out 2).trans rfl, (blk_cell BK216.out 3).trans rfl, (blk_cell BK216.out 4).trans rfl, (blk_cell BK216.out 5).trans rfl⟩ (fun hHeld => ?_)
              clear hK K
              refine norm_ (a' := ?_) ?_ ?_
              rotate_left
              ·
               show Act.put _ (some 70) _ = _
               simp only [Act.put, List.setIfInBounds_toArray, List.set_cons_zero, List.set_cons_succ, i64_w, i32_w]
               rfl
              refine one_ (i := 6) (N := some 71) #[true, true, true, true, true, true, true, false, false, false, false, false] rfl rfl (one_of HT_.out (by kernel_rfl)) (by decide) (fun K hK => ?_)
              refine goes_ Try.func19 (by kernel_rfl) rfl #[.slice Ao63 y235.length co63] (by rfl) rfl rfl (by (try simp only [List.map_toArray, List.map_cons, List.map_nil]); first | done | rfl | (simp only [List.length_drop, List.length_take]; rfl)) ?_
              with_reducible refine (term_Check.calls kj15 _ _ y235 t238 t239 _ ?side1 ?side2 A28.out).mono ?_
              (case side1 => repeat (first | exact (Kd.R_reads' HO237.out).2.2 | (with_reducible refine Kd.C_alloc ?_ _) | (with_reducible refine Kd.C_drewN ?_ _) | (with_reducible refine Kd.C_drew ?_)))
              (case side2 => exact (Kd.R_reads' HO237.out).2.1)
              rintro e w64 ⟨rfl, hb⟩
              refine ⟨_, rfl, ?_⟩
              have n0_ := Aside0.mk (Kd.R_below (by (with_reducible repeat (first | apply Kd.R_alloc | apply Kd.R_drewN | apply Kd.R_drew)); exact HO234.out) hb)
              have n1_ := Aside0.mk (Kd.R_below (by (with_reducible repeat (first | apply Kd.R_alloc | apply Kd.R_drewN | apply Kd.R_drew)); exact HO237.out) hb)
              have n2_ := Aside0.mk (blk_below (g := gb216) (o := .cells #[.int .i64 a2_0, .int .i64 a2_1, .int .u64 a2_2, .int .i64 a2_3, .int .i64 a2_4, .int .i64 a2_5] 32 (0, 0)) (by (with_reducible repeat (first | refine blk_drewN ?_ _ | refine blk_drew ?_ | refine blk_alloc ?_ _)); exact BK216.out) hb)
              have n3_ := Aside0.mk (below_step (by repeat (first | (with_reducible first | exact HB.out | apply below_alloc | apply pw_below_drewN | apply below_drew1 | refine below_set ?_ GE216.out) | exact HB.out)) hb)
              clear HO234 HO237 BK216 HB
              have HO234 := n0_
              have HO237 := n1_
              have BK216 := n2_
              have HB := n3_
              clear n0_ n1_ n2_ n3_
              (try clear hb)
              (try clear hb2)
              (try clear hk)
              (try clear hi)
              refine hK.out _ _ ⟨(blk_cell BK216.out 0).trans rfl, (blk_cell BK216.out 1).trans rfl, (blk_cell BK216.out 2).trans rfl, (blk_cell BK216.out 3).trans rfl, (blk_cell BK216.out 4).trans rfl, (blk_cell BK216.out 5).trans rfl⟩ (fun hHeld => ?_)
              clear hK K
              refine norm_ (a' := ?_) ?_ ?_
              rotate_left
              ·
               show Act.put _ (some 71) _ = _
               simp only [Act.put, List.setIfInBounds_toArray, List.set_cons_zero, List.set_cons_succ, i64_w, i32_w]
               rfl
              refine pure_ (i := 7) (N := some 64) (v := ?_) (a' := ?_) #[true, true, true, true, true, true, true, true, false, false, false, false] rfl rfl (any_of HT_.out (by kernel_rfl)) (fun _ _ _ h => h) (Or.inl ⟨by rfl, ?_⟩) ?_ ?_
              rotate_left
              ·
               intro w'
               go_simp
               with_reducible rfl
              rotate_left
              ·
               simp only [Act.put, List.setIfInBounds_toArray, List.set_cons_zero, List.set_cons_succ, i64_w, i32_w]
               rfl
              refine pure_ (i := 8) (N := some 72) (v := ?_) (a' := ?_) #[true, true, true, true, true, true, true, true, true, false, false, false] rfl rfl (any_of HT_.out (by kernel_rfl)) (fun _ _ _ h => h) (Or.inl ⟨by rfl, ?_⟩) ?_ ?_
              rotate_left
              ·
               intro w'
               go_simp
               with_reducible rfl
              rotate_left
              ·
               simp only [Act.put, List.setIfInBounds_toArray, List.set_cons_zero, List.set_cons_succ, i64_w, i32_w]
               rfl
              refine pure_ (i := 9) (N := some 73) (v := ?_) (a' := ?_) #[true, true, true, true, true, true, true, true, true, true, false, false] rfl rfl (any_of HT_.out (by kernel_rfl)) (fun _ _ _ h => h) (Or.inl ⟨by rfl, ?_⟩) ?_ ?_
              rotate_left
              ·
               intro w'
               go_simp
               with_reducible rfl
              rotate_left
              ·
               simp only [Act.put, List.setIfInBounds_toArray, List.set_cons_zero, List.set_cons_succ, i64_w, i32_w]
               rfl
              refine pure_ (i := 10) (N := some 11) (v := ?_) (a' := ?_) #[true, true, true, true, true, true, true, true, true, true, true, false] rfl rfl (any_of HT_.out (by kernel_rfl)) (fun _ _ _ h => h) (Or.inl ⟨by rfl, ?_⟩) ?_ ?_
              rotate_left
              ·
               intro w'
               go_simp
               with_reducible rfl
              rotate_left
              ·
               simp only [Act.put, List.setIfInBounds_toArray, List.set_cons_zero, List.set_cons_succ, i64_w, i32_w]
               rfl
              refine pure_ (i := 11) (N := some 12) (v := ?_) (a' := ?_) #[true, true, true, true, true, true, true, true, true, true, true, true] rfl rfl (any_of HT_.out (by kernel_rfl)) (fun _ _ _ h => h) (Or.inl ⟨by rfl, ?_⟩) ?_ ?_
              rotate_left
              ·
               intro w'
               go_simp
               with_reducible rfl
              rotate_left
              ·
               simp only [Act.put, List.setIfInBounds_toArray, List.set_cons_zero, List.set_cons_succ, i64_w, i32_w]
               rfl
              refine done_ (done_of HT_.out (by kernel_rfl)) ?_
              try go_wp2
              go_ret
              exact ⟨by first | rfl | (simp [errW_none, errW_some] <;> rfl) | (simp [*, errW_none, errW_some] <;> rfl), by repeat (first | (with_reducible first | exact HB.out | apply below_alloc | apply pw_below_drewN | apply below_drew1 | refine below_set ?_ GE216.out) | exact HB.out)⟩
            ·
             rw [if_neg c29] at H
             have c29b0 : (t218 == 0) = false := beq_eq_false_iff_ne.mpr c29
             have c29b1 : (t218 != 0) = true := bne_iff_ne.mpr c29
             by_cases c65 : t238 = t218
             ·
              rw [if_pos c65] at H
              have c65b0 : (t238 == t218) = true := beq_iff_eq.mpr c65
              have c65b1 : (t238 != t218) = false := bne_eq_false_iff_eq.mpr c65
              clear c65
              by_cases c66 : t239 = t219
              ·
               rw [if_pos c66] at H
               have c66b0 : (t239 == t219) = true := beq_iff_eq.mpr c66
               have c66b1 : (t239 != t219) = false := bne_eq_false_iff_eq.mpr c66
               clear c66
               obtain rfl := Option.some.inj H
               try go_wp2
               have n0_ := Aside0.mk (blk_drew BK216.out)
               have n1_ := Aside0.mk (below_drew1 HB.out)
               clear BK216 HB
               have BK216 := n0_
               have HB := n1_
               clear n0_ n1_
               refine start_ (n := 12) (S := fun w' => w'.cell? ⟨gb216, 0, none⟩ = some (.int .i64 a2_0) ∧ w'.cell? ⟨gb216, 1, none⟩ = some (.int .i64 a2_1) ∧ w'.cell? ⟨gb216, 2, none⟩ = some (.int .u64 a2_2) ∧ w'.cell? ⟨gb216, 3, none⟩ = some (.int .i64 a2_3) ∧ w'.cell? ⟨gb216, 4, none⟩ = some (.int .i64 a2_4) ∧ w'.cell? ⟨gb216, 5, none⟩ = some (.int .i64 a2_5)) (ds := []) #[false, false, false, false, false, false, false, false, false, false, false, false] (by kernel_rfl) rfl rfl ⟨(blk_cell BK216.out 0).trans rfl, (blk_cell BK216.out 1).trans rfl, (blk_cell BK216.out 2).trans rfl, (blk_cell BK216.out 3).trans rfl, (blk_cell BK216.out 4).trans rfl, (blk_cell BK216.out 5).trans rfl⟩ (fun hHeld => ?_); refine with_tabW backreachlaw06_TermParts.tab9 backreachlaw06_TermParts.bits9 (fun HT_ HW_ => ?_)
               generalize wc.drew = w67 at BK216 HB hHeld ⊢
               refine pure_ (i := 1) (N := some 66) (v := ?_) (a' := ?_) #[false, true, false, false, false, false, false, false, false, false, false, false] rfl rfl (any_of HT_.out (by kernel_rfl)) (fun _ _ _ h => h) (Or.inl ⟨by rfl, ?_⟩) ?_ ?_
               rotate_left
               ·
                intro w'
                go_simp
                with_reducible rfl
               rotate_left
               ·
                simp only [Act.put, List.setIfInBounds_toArray, List.set_cons_zero, List.set_cons_succ, i64_w, i32_w]
                rfl
               refine take_ (i := 3) (N := some 68) (v := ?_) (a' := ?_) #[false, true, false, true, false, false, false, false, false, false, false, false] rfl rfl (take_ofW HT_.out HW_.out (by kernel_rfl)) (fun _ _ _ h => h) (Or.inl ⟨by rfl, ?_⟩) hHeld ?_ ?_
               rotate_left
               ·
                rintro w' ⟨s0, s1, s2, s3, s4, s5⟩
                go_simp
                with_reducible rfl
               rotate_left
               ·
                simp only [Act.put, List.setIfInBounds_toArray, List.set_cons_zero, List.set_cons_succ, i64_w, i32_w]
                rfl
               refine join_ (σ := Value × Value × Value) 7 #[true, true, true, true, true, false, false, false, false, false, false, false] (fun s_ => [(65, s_.1), (67, s_.2.1), (69, s_.2.2)]) (fun s_ w' => (w'.cell? ⟨gb216, 0, none⟩ = some (.int .i64 a2_0) ∧ w'.cell? ⟨gb216, 1, none⟩ = some (.int .i64 a2_1) ∧ w'.cell? ⟨gb216, 2, none⟩ = some (.int .u64 a2_2) ∧ w'.cell? ⟨gb216, 3, none⟩ = some (.int .i64 a2_3) ∧ w'.cell? ⟨gb216, 4, none⟩ = some (.int .i64 a2_4) ∧ w'.cell? ⟨gb216, 5, none⟩ = some (.int .i64 a2_5)) ∧ (Kd.R k32 32 w' w.heap.size (fun k_ => some k_ ≠ (s_.2.2 : Value).ownBlock ∧ k_ ≠ gb216) s_.2.1 y229) ∧ (Kd.R k32 32 w' w.heap.size (fun k_ => some k_ ≠ (s_.2.1 : Value).ownBlock ∧ k_ ≠ gb216) s_.2.2 y232) ∧ (w'.heap[gb216]? = some (.cells #[.int .i64 a2_0, .int .i64 a2_1, .int .u64 a2_2, .int .i64 a2_3, .int .i64 a2_4, .int .i64 a2_5] 32 (0, 0))) ∧ (Below w.heap.size w w')) ?_ ?_
               rotate_left
               ·
                intro hCont
                refine two_ (i := 0) (j := 4) (Ni := some 65) (Nj := some 69) #[true, true, false, true, false, false, false, false, false, false, false, false] #[false, true, false, true, true, false, false, false, false, false, false, false] rfl rfl rfl rfl (two_of HT_.out (by kernel_rfl)) (by decide) (by decide) (fun K hK => ?_) (fun K hK => ?_)
                ·
                 skip
                 refine Kd.R_lit_step k32 _ 32 ?hg (N := 65) ?hd (xs := ([] : List (S32))) (inner := []) (ok := fun _ => True) (okp := fun _ => True) ?hr ?hp (fun _ hk => hk) trivial (Below.refl _ _) (Nat.le_refl _) (by simp) ?_; (case hd => rfl); (case hg => rfl); (case hr => first | (go_simp; done) | (go_simp; rfl)); (case hp => exact (Reps.none _ _))
                 intro v227 w68 ho69 hb hg_ hnew_
                 clear hg_ hnew_
                 (first | rw [← Ny226.out] at ho69 | (simp only [Int.reduceToNat] at ho69; rw [← Ny226.out] at ho69))
                 have n0_ := Aside0.mk (Kd.R_lower (Kd.R_newB ho69 (g := gb216) (o := .cells #[.int .i64 a2_0, .int .i64 a2_1, .int .u64 a2_2, .int .i64 a2_3, .int .i64 a2_4, .int .i64 a2_5] 32 (0, 0)) (by (with_reducible repeat (first | refine blk_drewN ?_ _ | refine blk_drew ?_ | refine blk_alloc ?_ _)); exact BK216.out)) (below_size (by repeat (first | (with_reducible first | exact HB.out | apply below_alloc | apply pw_below_drewN | apply below_drew1 | refine below_set ?_ GE216.out) | exact HB.out))))
                 have n1_ := Aside0.mk (blk_below (g := gb216) (o := .cells #[.int .i64 a2_0, .int .i64 a2_1, .int .u64 a2_2, .int .i64 a2_3, .int .i64 a2_4, .int .i64 a2_5] 32 (0, 0)) (by (with_reducible repeat (first | refine blk_drewN ?_ _ | refine blk_drew ?_ | refine blk_alloc ?_ _)); exact BK216.out) hb)
                 have n2_ := Aside0.mk (below_step (by repeat (first | (with_reducible first | exact HB.out | apply below_alloc | apply pw_below_drewN | apply below_drew1 | refine below_set ?_ GE216.out) | exact HB.out)) hb)
                 clear BK216 HB
                 have HO228 := n0_
                 have BK216 := n1_
                 have HB := n2_
                 clear n0_ n1_ n2_ hb ho69
                 refine hK.out _ _ ⟨(blk_cell BK216.out 0).trans rfl, (blk_cell BK216.out 1).trans rfl, (blk_cell BK216.out 2).trans rfl, (blk_cell BK216.out 3).trans rfl, (blk_cell BK216.out 4).trans rfl, (blk_cell BK216.out 5).trans rfl⟩ (fun hHeld => ?_)
                 clear hK K
                 refine norm_ (a' := ?_) ?_ ?_
                 rotate_left
                 ·
                  show Act.put _ (some 65) _ = _
                  simp only [Act.put, List.setIfInBounds_toArray, List.set_cons_zero, List.set_cons_succ, i64_w, i32_w]
                  rfl
                 refine two_ (i := 2) (j := 4) (Ni := some 67) (Nj := some 69) #[true, true, true, true, false, false, false, false, false, false, false, false] #[true, true, false, true, true, false, false, false, false, false, false, false] rfl rfl rfl rfl (two_of HT_.out (by kernel_rfl)) (by decide) (by decide) (fun K hK => ?_) (fun K hK => ?_)
                 ·
                  skip
                  refine Kd.R_append_rows_step k32 (w0 := w) w.heap.size (by rfl) (.tmp 65) (.tmp 66) 22 32 (.agg #[(.int .i64 0), (.int .i64 0), (.int .u64 0), (.int .i64 0), (.int .i64 0), (.int .i64 0)]) 48 rfl Try.underlying22 info32 rfl (by decide) (by omega) v227 y226 l0 _ _ _ (fun k_ => k_ ≠ gb216) (fun _ => False) rfl rfl ?aO ?aR (fun _ _ h => h) (fun _ h => h.elim) ?aF ?aB ?aS ?aL ?_
                  (case aR => repeat (first | exact (Kd.C_below HR0.out HB.out) | (with_reducible refine Kd.C_alloc ?_ _) | (with_reducible refine Kd.C_drewN ?_ _) | (with_reducible refine Kd.C_drew ?_)))
                  (case aB => exact (by repeat (first | (with_reducible first | exact HB.out | apply below_alloc | apply pw_below_drewN | apply below_drew1 | refine below_set ?_ GE216.out) | exact HB.out)))
                  (case aF => exact (fun k_ hk => Kd.freshB (g := gb216) (o := .cells #[.int .i64 a2_0, .int .i64 a2_1, .int .u64 a2_2, .int .i64 a2_3, .int .i64 a2_4, .int .i64 a2_5] 32 (0, 0)) (by (with_reducible repeat (first | refine blk_drewN ?_ _ | refine blk_drew ?_ | refine blk_alloc ?_ _)); exact BK216.out) k_ hk))
                  (case aO => exact (by (with_reducible repeat (first | apply Kd.R_alloc | apply Kd.R_drewN | apply Kd.R_drew)); exact Kd.R_mono HO228.out (fun _ hk => hk.2)))
                  (case aS => exact (below_size (by repeat (first | (with_reducible first | exact HB.out | apply below_alloc | apply pw_below_drewN | apply below_drew1 | refine below_set ?_ GE216.out) | exact HB.out))))
                  (case aL => have := LMc26.out; omega)
                  intro v230 w70 ho hb hg hat
                  rw [← Ny229.out] at ho
                  have n0_ := Aside0.mk (blk_grown (g := gb216) (o := .cells #[.int .i64 a2_0, .int .i64 a2_1, .int .u64 a2_2, .int .i64 a2_3, .int .i64 a2_4, .int .i64 a2_5] 32 (0, 0)) (by (with_reducible repeat (first | refine blk_drewN ?_ _ | refine blk_drew ?_ | refine blk_alloc ?_ _)); exact BK216.out) hg (Kd.R_away HO228.out (fun _ hk => hk.2)))
                  have n1_ := Aside0.mk (hb)
                  have n2_ := Aside0.mk (ho)
                  clear BK216 HB HO228
                  have BK216 := n0_
                  have HB := n1_
                  have HO231 := n2_
                  clear n0_ n1_ n2_ ho hb hg hat
                  refine hK.out _ _ ⟨(blk_cell BK216.out 0).trans rfl, (blk_cell BK216.out 1).trans rfl, (blk_cell BK216.out 2).trans rfl, (blk_cell BK216.out 3).trans rfl, (blk_cell BK216.out 4).trans rfl, (blk_cell BK216.out 5).trans rfl⟩ (fun hHeld => ?_)
                  clear hK K
                  refine norm_ (a' := ?_) ?_ ?_
                  rotate_left
                  ·
                   show Act.put _ (some 67) _ = _
                   simp only [Act.put, List.setIfInBounds_toArray, List.set_cons_zero, List.set_cons_succ, i64_w, i32_w]
                   rfl
                  refine one_ (i := 4) (N := some 69) #[true, true, true, true, true, false, false, false, false, false, false, false] rfl rfl (one_of HT_.out (by kernel_rfl)) (by decide) (fun K hK => ?_)
                  refine Kd.R_lit_step k32 _ 32 ?hg (N := 69) ?hd (xs := ([(⟨a2_0, a2_1, a2_2, (⟨a2_3, a2_4, a2_5⟩ : S30)⟩ : S32)] : List (S32))) (inner := [.int .i64 a2_0, .int .i64 a2_1, .int .u64 a2_2, .int .i64 a2_3, .int .i64 a2_4, .int .i64 a2_5]) (ok := fun _ => True) (okp := fun _ => True) ?hr ?hp (fun _ hk => hk) trivial (Below.refl _ _) (Nat.le_refl _) (by simp) ?_; (case hd => rfl); (case hg => rfl); (case hr => first | (go_simp; done) | (go_simp; rfl)); (case hp => exact (Reps.c6 (show Kd.M k32 _ _ _ (⟨a2_0, a2_1, a2_2, (⟨a2_3, a2_4, a2_5⟩ : S30)⟩ : S32) [.int .i64 a2_0, .int .i64 a2_1, .int .u64 a2_2, .int .i64 a2_3, .int .i64 a2_4, .int .i64 a2_5] from (k32_mkM _ _ _ (⟨a2_0, a2_1, a2_2, (⟨a2_3, a2_4, a2_5⟩ : S30)⟩ : S32) )) (Reps.none _ _)))
                  intro v233 w71 ho72 hb hg_ hnew_
                  clear hg_ hnew_
                  (first | rw [← Ny232.out] at ho72 | (simp only [Int.reduceToNat] at ho72; rw [← Ny232.out] at ho72))
                  have n0_ := Aside0.mk (Kd.R_elder' (by (with_reducible repeat (first | apply Kd.R_alloc | apply Kd.R_drewN | apply Kd.R_drew)); exact HO231.out) (Kd.R_base ho72) hb)
                  have n1_ := Aside0.mk (Kd.R_lower (Kd.R_newB (Kd.R_new' ho72 (Kd.R_lt (by (with_reducible repeat (first | apply Kd.R_alloc | apply Kd.R_drewN | apply Kd.R_drew)); exact HO231.out))) (g := gb216) (o := .cells #[.int .i64 a2_0, .int .i64 a2_1, .int .u64 a2_2, .int .i64 a2_3, .int .i64 a2_4, .int .i64 a2_5] 32 (0, 0)) (by (with_reducible repeat (first | refine blk_drewN ?_ _ | refine blk_drew ?_ | refine blk_alloc ?_ _)); exact BK216.out)) (below_size (by repeat (first | (with_reducible first | exact HB.out | apply below_alloc | apply pw_below_drewN | apply below_drew1 | refine below_set ?_ GE216.out) | exact HB.out))))
                  have n2_ := Aside0.mk (blk_below (g := gb216) (o := .cells #[.int .i64 a2_0, .int .i64 a2_1, .int .u64 a2_2, .int .i64 a2_3, .int .i64 a2_4, .int .i64 a2_5] 32 (0, 0)) (by (with_reducible repeat (first | refine blk_drewN ?_ _ | refine blk_drew ?_ | refine blk_alloc ?_ _)); exact BK216.out) hb)
                  have n3_ := Aside0.mk (below_step (by repeat (first | (with_reducible first | exact HB.out | apply below_alloc | apply pw_below_drewN | apply below_drew1 | refine below_set ?_ GE216.out) | exact HB.out)) hb)
                  clear HO231 BK216 HB
                  have HO231 := n0_
                  have HO234 := n1_
                  have BK216 := n2_
                  have HB := n3_
                  clear n0_ n1_ n2_ n3_ hb ho72
                  refine hK.out _ _ ⟨(blk_cell BK216.out 0).trans rfl, (blk_cell BK216.out 1).trans rfl, (blk_cell BK216.out 2).trans rfl, (blk_cell BK216.out 3).trans rfl, (blk_cell BK216.out 4).trans rfl, (blk_cell BK216.out 5).trans rfl⟩ (fun hHeld => ?_)
                  clear hK K
                  refine norm_ (a' := ?_) ?_ ?_
                  rotate_left
                  ·
                   show Act.put _ (some 69) _ = _
                   simp only [Act.put, List.setIfInBounds_toArray, List.set_cons_zero, List.set_cons_succ, i64_w, i32_w]
                   rfl
                  exact norm_ (by simp only [putAll, Act.put, List.setIfInBounds_toArray, List.set_cons_zero, List.set_cons_succ]) (hCont (v227, v230, v233) _ ⟨hHeld, (by (with_reducible repeat (first | apply Kd.R_alloc | apply Kd.R_drewN | apply Kd.R_drew)); exact Kd.R_mono HO231.out (fun _ hk => ⟨hk.2, hk.1⟩)), (by (with_reducible repeat (first | apply Kd.R_alloc | apply Kd.R_drewN | apply Kd.R_drew)); exact Kd.R_mono HO234.out (fun _ hk => ⟨hk.1.2, hk.2⟩)), (by (with_reducible repeat (first | refine blk_drewN ?_ _ | refine blk_drew ?_ | refine blk_alloc ?_ _)); exact BK216.out), (by repeat (first | (with_reducible first | exact HB.out | apply below_alloc | apply pw_below_drewN | apply below_drew1 | refine below_set ?_ GE216.out) | exact HB.out))⟩)
                 ·
                  skip
                  refine Kd.R_lit_step k32 _ 32 ?hg (N := 69) ?hd (xs := ([(⟨a2_0, a2_1, a2_2, (⟨a2_3, a2_4, a2_5⟩ : S30)⟩ : S32)] : List (S32))) (inner := [.int .i64 a2_0, .int .i64 a2_1, .int .u64 a2_2, .int .i64 a2_3, .int .i64 a2_4, .int .i64 a2_5]) (ok := fun _ => True) (okp := fun _ => True) ?hr ?hp (fun _ hk => hk) trivial (Below.refl _ _) (Nat.le_refl _) (by simp) ?_; (case hd => rfl); (case hg => rfl); (case hr => first | (go_simp; done) | (go_simp; rfl)); (case hp => exact (Reps.c6 (show Kd.M k32 _ _ _ (⟨a2_0, a2_1, a2_2, (⟨a2_3, a2_4, a2_5⟩ : S30)⟩ : S32) [.int .i64 a2_0, .int .i64 a2_1, .int .u64 a2_2, .int .i64 a2_3, .int .i64 a2_4, .int .i64 a2_5] from (k32_mkM _ _ _ (⟨a2_0, a2_1, a2_2, (⟨a2_3, a2_4, a2_5⟩ : S30)⟩ : S32) )) (Reps.none _ _)))
                  intro v233 w70 ho71 hb hg_ hnew_
                  clear hg_ hnew_
                  (first | rw [← Ny232.out] at ho71 | (simp only [Int.reduceToNat] at ho71; rw [← Ny232.out] at ho71))
                  have n0_ := Aside0.mk (Kd.R_elder' (by (with_reducible repeat (first | apply Kd.R_alloc | apply Kd.R_drewN | apply Kd.R_drew)); exact HO228.out) (Kd.R_base ho71) hb)
                  have n1_ := Aside0.mk (Kd.R_lower (Kd.R_newB (Kd.R_new' ho71 (Kd.R_lt (by (with_reducible repeat (first | apply Kd.R_alloc | apply Kd.R_drewN | apply Kd.R_drew)); exact HO228.out))) (g := gb216) (o := .cells #[.int .i64 a2_0, .int .i64 a2_1, .int .u64 a2_2, .int .i64 a2_3, .int .i64 a2_4, .int .i64 a2_5] 32 (0, 0)) (by (with_reducible repeat (first | refine blk_drewN ?_ _ | refine blk_drew ?_ | refine blk_alloc ?_ _)); exact BK216.out)) (below_size (by repeat (first | (with_reducible first | exact HB.out | apply below_alloc | apply pw_below_drewN | apply below_drew1 | refine below_set ?_ GE216.out) | exact HB.out))))
                  have n2_ := Aside0.mk (blk_below (g := gb216) (o := .cells #[.int .i64 a2_0, .int .i64 a2_1, .int .u64 a2_2, .int .i64 a2_3, .int .i64 a2_4, .int .i64 a2_5] 32 (0, 0)) (by (with_reducible repeat (first | refine blk_drewN ?_ _ | refine blk_drew ?_ | refine blk_alloc ?_ _)); exact BK216.out) hb)
                  have n3_ := Aside0.mk (below_step (by repeat (first | (with_reducible first | exact HB.out | apply below_alloc | apply pw_below_drewN | apply below_drew1 | refine below_set ?_ GE216.out) | exact HB.out)) hb)
                  clear HO228 BK216 HB
                  have HO228 := n0_
                  have HO234 := n1_
                  have BK216 := n2_
                  have HB := n3_
                  clear n0_ n1_ n2_ n3_ hb ho71
                  refine hK.out _ _ ⟨(blk_cell BK216.out 0).trans rfl, (blk_cell BK216.out 1).trans rfl, (blk_cell BK216.out 2).trans rfl, (blk_cell BK216.out 3).trans rfl, (blk_cell BK216.out 4).trans rfl, (blk_cell BK216.out 5).trans rfl⟩ (fun hHeld => ?_)
                  clear hK K
                  refine norm_ (a' := ?_) ?_ ?_
                  rotate_left
                  ·
                   show Act.put _ (some 69) _ = _
                   simp only [Act.put, List.setIfInBounds_toArray, List.set_cons_zero, List.set_cons_succ, i64_w, i32_w]
                   rfl
                  refine one_ (i := 2) (N := some 67) #[true, true, true, true, true, false, false, false, false, false, false, false] rfl rfl (one_of HT_.out (by kernel_rfl)) (by decide) (fun K hK => ?_)
                  refine Kd.R_append_rows_step k32 (w0 := w) w.heap.size (by rfl) (.tmp 65) (.tmp 66) 22 32 (.agg #[(.int .i64 0), (.int .i64 0), (.int .u64 0), (.int .i64 0), (.int .i64 0), (.int .i64 0)]) 48 rfl Try.underlying22 info32 rfl (by decide) (by omega) v227 y226 l0 _ _ _ (fun k_ => some k_ ≠ (v233 : Value).ownBlock ∧ k_ ≠ gb216) (fun _ => False) rfl rfl ?aO ?aR (fun _ _ h => h) (fun _ h => h.elim) ?aF ?aB ?aS ?aL ?_
                  (case aR => repeat (first | exact (Kd.C_below HR0.out HB.out) | (with_reducible refine Kd.C_alloc ?_ _) | (with_reducible refine Kd.C_drewN ?_ _) | (with_reducible refine Kd.C_drew ?_)))
                  (case aB => exact (by repeat (first | (with_reducible first | exact HB.out | apply below_alloc | apply pw_below_drewN | apply below_drew1 | refine below_set ?_ GE216.out) | exact HB.out)))
                  (case aF => exact (fun k_ hk => ⟨Kd.fresh' (Kd.R_lt (by (with_reducible repeat (first | apply Kd.R_alloc | apply Kd.R_drewN | apply Kd.R_drew)); exact HO234.out)) k_ hk, Kd.freshB (g := gb216) (o := .cells #[.int .i64 a2_0, .int .i64 a2_1, .int .u64 a2_2, .int .i64 a2_3, .int .i64 a2_4, .int .i64 a2_5] 32 (0, 0)) (by (with_reducible repeat (first | refine blk_drewN ?_ _ | refine blk_drew ?_ | refine blk_alloc ?_ _)); exact BK216.out) k_ hk⟩))
                  (case aO => exact (by (with_reducible repeat (first | apply Kd.R_alloc | apply Kd.R_drewN | apply Kd.R_drew)); exact Kd.R_mono HO228.out (fun _ hk => ⟨hk.2, hk.1.2⟩)))
                  (case aS => exact (below_size (by repeat (first | (with_reducible first | exact HB.out | apply below_alloc | apply pw_below_drewN | apply below_drew1 | refine below_set ?_ GE216.out) | exact HB.out))))
                  (case aL => have := LMc26.out; omega)
                  intro v230 w72 ho hb hg hat
                  rw [← Ny229.out] at ho
                  have n0_ := Aside0.mk (blk_grown (g := gb216) (o := .cells #[.int .i64 a2_0, .int .i64 a2_1, .int .u64 a2_2, .int .i64 a2_3, .int .i64 a2_4, .int .i64 a2_5] 32 (0, 0)) (by (with_reducible repeat (first | refine blk_drewN ?_ _ | refine blk_drew ?_ | refine blk_alloc ?_ _)); exact BK216.out) hg (Kd.R_away HO228.out (fun _ hk => hk.1.2)))
                  have n1_ := Aside0.mk (Kd.R_after (ok := (fun k_ => k_ ≠ gb216)) (by (with_reducible repeat (first | apply Kd.R_alloc | apply Kd.R_drewN | apply Kd.R_drew)); exact Kd.R_mono HO234.out (fun _ hk => ⟨hk.2, hk.1.2⟩)) hg hat)
                  have n2_ := Aside0.mk (hb)
                  have n3_ := Aside0.mk (ho)
                  clear BK216 HO234 HB HO228
                  have BK216 := n0_
                  have HO234 := n1_
                  have HB := n2_
                  have HO231 := n3_
                  clear n0_ n1_ n2_ n3_ ho hb hg hat
                  refine hK.out _ _ ⟨(blk_cell BK216.out 0).trans rfl, (blk_cell BK216.out 1).trans rfl, (blk_cell BK216.out 2).trans rfl, (blk_cell BK216.out 3).trans rfl, (blk_cell BK216.out 4).trans rfl, (blk_cell BK216.out 5).trans rfl⟩ (fun hHeld => ?_)
                  clear hK K
                  refine norm_ (a' := ?_) ?_ ?_
                  rotate_left
                  ·
                   show Act.put _ (some 67) _ = _
                   simp only [Act.put, List.setIfInBounds_toArray, List.set_cons_zero, List.set_cons_succ, i64_w, i32_w]
                   rfl
                  exact norm_ (by simp only [putAll, Act.put, List.setIfInBounds_toArray, List.set_cons_zero, List.set_cons_succ]) (hCont (v227, v230, v233) _ ⟨hHeld, (by (with_reducible repeat (first | apply Kd.R_alloc | apply Kd.R_drewN | apply Kd.R_drew)); exact HO231.out), (by (with_reducible repeat (first | apply Kd.R_alloc | apply Kd.R_drewN | apply Kd.R_drew)); exact Kd.R_mono HO234.out (fun _ hk => ⟨hk.2, hk.1⟩)), (by (with_reducible repeat (first | refine blk_drewN ?_ _ | refine blk_drew ?_ | refine blk_alloc ?_ _)); exact BK216.out), (by repeat (first | (with_reducible first | exact HB.out | apply below_alloc | apply pw_below_drewN | apply below_drew1 | refine below_set ?_ GE216.out) | exact HB.out))⟩)
                ·
                 skip
                 refine Kd.R_lit_step k32 _ 32 ?hg (N := 69) ?hd (xs := ([(⟨a2_0, a2_1, a2_2, (⟨a2_3, a2_4, a2_5⟩ : S30)⟩ : S32)] : List (S32))) (inner := [.int .i64 a2_0, .int .i64 a2_1, .int .u64 a2_2, .int .i64 a2_3, .int .i64 a2_4, .int .i64 a2_5]) (ok := fun _ => True) (okp := fun _ => True) ?hr ?hp (fun _ hk => hk) trivial (Below.refl _ _) (Nat.le_refl _) (by simp) ?_; (case hd => rfl); (case hg => rfl); (case hr => first | (go_simp; done) | (go_simp; rfl)); (case hp => exact (Reps.c6 (show Kd.M k32 _ _ _ (⟨a2_0, a2_1, a2_2, (⟨a2_3, a2_4, a2_5⟩ : S30)⟩ : S32) [.int .i64 a2_0, .int .i64 a2_1, .int .u64 a2_2, .int .i64 a2_3, .int .i64 a2_4, .int .i64 a2_5] from (k32_mkM _ _ _ (⟨a2_0, a2_1, a2_2, (⟨a2_3, a2_4, a2_5⟩ : S30)⟩ : S32) )) (Reps.none _ _)))
                 intro v233 w68 ho69 hb hg_ hnew_
                 clear hg_ hnew_
                 (first | rw [← Ny232.out] at ho69 | (simp only [Int.reduceToNat] at ho69; rw [← Ny232.out] at ho69))
                 have n0_ := Aside0.mk (Kd.R_lower (Kd.R_newB ho69 (g := gb216) (o := .cells #[.int .i64 a2_0, .int .i64 a2_1, .int .u64 a2_2, .int .i64 a2_3, .int .i64 a2_4, .int .i64 a2_5] 32 (0, 0)) (by (with_reducible repeat (first | refine blk_drewN ?_ _ | refine blk_drew ?_ | refine blk_alloc ?_ _)); exact BK216.out)) (below_size (by repeat (first | (with_reducible first | exact HB.out | apply below_alloc | apply pw_below_drewN | apply below_drew1 | refine below_set ?_ GE216.out) | exact HB.out))))
                 have n1_ := Aside0.mk (blk_below (g := gb216) (o := .cells #[.int .i64 a2_0, .int .i64 a2_1, .int .u64 a2_2, .int .i64 a2_3, .int .i64 a2_4, .int .i64 a2_5] 32 (0, 0)) (by (with_reducible repeat (first | refine blk_drewN ?_ _ | refine blk_drew ?_ | refine blk_alloc ?_ _)); exact BK216.out) hb)
                 have n2_ := Aside0.mk (below_step (by repeat (first | (with_reducible first | exact HB.out | apply below_alloc | apply pw_below_drewN | apply below_drew1 | refine below_set ?_ GE216.out) | exact HB.out)) hb)
                 clear BK216 HB
                 have HO234 := n0_
                 have BK216 := n1_
                 have HB := n2_
                 clear n0_ n1_ n2_ hb ho69
                 refine hK.out _ _ ⟨(blk_cell BK216.out 0).trans rfl, (blk_cell BK216.out 1).trans rfl, (blk_cell BK216.out 2).trans rfl, (blk_cell BK216.out 3).trans rfl, (blk_cell BK216.out 4).trans rfl, (blk_cell BK216.out 5).trans rfl⟩ (fun hHeld => ?_)
                 clear hK K
                 refine norm_ (a' := ?_) ?_ ?_
                 rotate_left
                 ·
                  show Act.put _ (some 69) _ = _
                  simp only [Act.put, List.setIfInBounds_toArray, List.set_cons_zero, List.set_cons_succ, i64_w, i32_w]
                  rfl
                 refine one_ (i := 0) (N := some 65) #[true, true, false, true, true, false, false, false, false, false, false, false] rfl rfl (one_of HT_.out (by kernel_rfl)) (by decide) (fun K hK => ?_)
                 refine Kd.R_lit_step k32 _ 32 ?hg (N := 65) ?hd (xs := ([] : List (S32))) (inner := []) (ok := fun _ => True) (okp := fun _ => True) ?hr ?hp (fun _ hk => hk) trivial (Below.refl _ _) (Nat.le_refl _) (by simp) ?_; (case hd => rfl); (case hg => rfl); (case hr => first | (go_simp; done) | (go_simp; rfl)); (case hp => exact (Reps.none _ _))
                 intro v227 w70 ho71 hb hg_ hnew_
                 clear hg_ hnew_
                 (first | rw [← Ny226.out] at ho71 | (simp only [Int.reduceToNat] at ho71; rw [← Ny226.out] at ho71))
                 have n0_ := Aside0.mk (Kd.R_elder' (by (with_reducible repeat (first | apply Kd.R_alloc | apply Kd.R_drewN | apply Kd.R_drew)); exact HO234.out) (Kd.R_base ho71) hb)
                 have n1_ := Aside0.mk (Kd.R_lower (Kd.R_newB (Kd.R_new' ho71 (Kd.R_lt (by (with_reducible repeat (first | apply Kd.R_alloc | apply Kd.R_drewN | apply Kd.R_drew)); exact HO234.out))) (g := gb216) (o := .cells #[.int .i64 a2_0, .int .i64 a2_1, .int .u64 a2_2, .int .i64 a2_3, .int .i64 a2_4, .int .i64 a2_5] 32 (0, 0)) (by (with_reducible repeat (first | refine blk_drewN ?_ _ | refine blk_drew ?_ | refine blk_alloc ?_ _)); exact BK216.out)) (below_size (by repeat (first | (with_reducible first | exact HB.out | apply below_alloc | apply pw_below_drewN | apply below_drew1 | refine below_set ?_ GE216.out) | exact HB.out))))
                 have n2_ := Aside0.mk (blk_below (g := gb216) (o := .cells #[.int .i64 a2_0, .int .i64 a2_1, .int .u64 a2_2, .int .i64 a2_3, .int .i64 a2_4, .int .i64 a2_5] 32 (0, 0)) (by (with_reducible repeat (first | refine blk_drewN ?_ _ | refine blk_drew ?_ | refine blk_alloc ?_ _)); exact BK216.out) hb)
                 have n3_ := Aside0.mk (below_step (by repeat (first | (with_reducible first | exact HB.out | apply below_alloc | apply pw_below_drewN | apply below_drew1 | refine below_set ?_ GE216.out) | exact HB.out)) hb)
                 clear HO234 BK216 HB
                 have HO234 := n0_
                 have HO228 := n1_
                 have BK216 := n2_
                 have HB := n3_
                 clear n0_ n1_ n2_ n3_ hb ho71
                 refine hK.out _ _ ⟨(blk_cell BK216.out 0).trans rfl, (blk_cell BK216.out 1).trans rfl, (blk_cell BK216.out 2).trans rfl, (blk_cell BK216.out 3).trans rfl, (blk_cell BK216.out 4).trans rfl, (blk_cell BK216.out 5).trans rfl⟩ (fun hHeld => ?_)
                 clear hK K
                 refine norm_ (a' := ?_) ?_ ?_
                 rotate_left
                 ·
                  show Act.put _ (some 65) _ = _
                  simp only [Act.put, List.setIfInBounds_toArray, List.set_cons_zero, List.set_cons_succ, i64_w, i32_w]
                  rfl
                 refine one_ (i := 2) (N := some 67) #[true, true, true, true, true, false, false, false, false, false, false, false] rfl rfl (one_of HT_.out (by kernel_rfl)) (by decide) (fun K hK => ?_)
                 refine Kd.R_append_rows_step k32 (w0 := w) w.heap.size (by rfl) (.tmp 65) (.tmp 66) 22 32 (.agg #[(.int .i64 0), (.int .i64 0), (.int .u64 0), (.int .i64 0), (.int .i64 0), (.int .i64 0)]) 48 rfl Try.underlying22 info32 rfl (by decide) (by omega) v227 y226 l0 _ _ _ (fun k_ => some k_ ≠ (v233 : Value).ownBlock ∧ k_ ≠ gb216) (fun _ => False) rfl rfl ?aO ?aR (fun _ _ h => h) (fun _ h => h.elim) ?aF ?aB ?aS ?aL ?_
                 (case aR => repeat (first | exact (Kd.C_below HR0.out HB.out) | (with_reducible refine Kd.C_alloc ?_ _) | (with_reducible refine Kd.C_drewN ?_ _) | (with_reducible refine Kd.C_drew ?_)))
                 (case aB => exact (by repeat (first | (with_reducible first | exact HB.out | apply below_alloc | apply pw_below_drewN | apply below_drew1 | refine below_set ?_ GE216.out) | exact HB.out)))
                 (case aF => exact (fun k_ hk => ⟨Kd.fresh' (Kd.R_lt (by (with_reducible repeat (first | apply Kd.R_alloc | apply Kd.R_drewN | apply Kd.R_drew)); exact HO234.out)) k_ hk, Kd.freshB (g := gb216) (o := .cells #[.int .i64 a2_0, .int .i64 a2_1, .int .u64 a2_2, .int .i64 a2_3, .int .i64 a2_4, .int .i64 a2_5] 32 (0, 0)) (by (with_reducible repeat (first | refine blk_drewN ?_ _ | refine blk_drew ?_ | refine blk_alloc ?_ _)); exact BK216.out) k_ hk⟩))
                 (case aO => exact (by (with_reducible repeat (first | apply Kd.R_alloc | apply Kd.R_drewN | apply Kd.R_drew)); exact Kd.R_mono HO228.out (fun _ hk => ⟨hk.1.2, hk.2⟩)))
                 (case aS => exact (below_size (by repeat (first | (with_reducible first | exact HB.out | apply below_alloc | apply pw_below_drewN | apply below_drew1 | refine below_set ?_ GE216.out) | exact HB.out))))
                 (case aL => have := LMc26.out; omega)
                 intro v230 w72 ho hb hg hat
                 rw [← Ny229.out] at ho
                 have n0_ := Aside0.mk (blk_grown (g := gb216) (o := .cells #[.int .i64 a2_0, .int .i64 a2_1, .int .u64 a2_2, .int .i64 a2_3, .int .i64 a2_4, .int .i64 a2_5] 32 (0, 0)) (by (with_reducible repeat (first | refine blk_drewN ?_ _ | refine blk_drew ?_ | refine blk_alloc ?_ _)); exact BK216.out) hg (Kd.R_away HO228.out (fun _ hk => hk.2)))
                 have n1_ := Aside0.mk (Kd.R_after (ok := (fun k_ => k_ ≠ gb216)) (by (with_reducible repeat (first | apply Kd.R_alloc | apply Kd.R_drewN | apply Kd.R_drew)); exact Kd.R_mono HO234.out (fun _ hk => ⟨hk.1.2, hk.2⟩)) hg hat)
                 have n2_ := Aside0.mk (hb)
                 have n3_ := Aside0.mk (ho)
                 clear BK216 HO234 HB HO228
                 have BK216 := n0_
                 have HO234 := n1_
                 have HB := n2_
                 have HO231 := n3_
                 clear n0_ n1_ n2_ n3_ ho hb hg hat
                 refine hK.out _ _ ⟨(blk_cell BK216.out 0).trans rfl, (blk_cell BK216.out 1).trans rfl, (blk_cell BK216.out 2).trans rfl, (blk_cell BK216.out 3).trans rfl, (blk_cell BK216.out 4).trans rfl, (blk_cell BK216.out 5).trans rfl⟩ (fun hHeld => ?_)
                 clear hK K
                 refine norm_ (a' := ?_) ?_ ?_
                 rotate_left
                 ·
                  show Act.put _ (some 67) _ = _
                  simp only [Act.put, List.setIfInBounds_toArray, List.set_cons_zero, List.set_cons_succ, i64_w, i32_w]
                  rfl
                 exact norm_ (by simp only [putAll, Act.put, List.setIfInBounds_toArray, List.set_cons_zero, List.set_cons_succ]) (hCont (v227, v230, v233) _ ⟨hHeld, (by (with_reducible repeat (first | apply Kd.R_alloc | apply Kd.R_drewN | apply Kd.R_drew)); exact HO231.out), (by (with_reducible repeat (first | apply Kd.R_alloc | apply Kd.R_drewN | apply Kd.R_drew)); exact Kd.R_mono HO234.out (fun _ hk => ⟨hk.2, hk.1⟩)), (by (with_reducible repeat (first | refine blk_drewN ?_ _ | refine blk_drew ?_ | refine blk_alloc ?_ _)); exact BK216.out), (by repeat (first | (with_reducible first | exact HB.out | apply below_alloc | apply pw_below_drewN | apply below_drew1 | refine below_set ?_ GE216.out) | exact HB.out))⟩)
               rintro ⟨v227, v230, v233⟩ w73 ⟨hS_, h0_, h1_, h2_, h3_⟩
               have n0_ : Aside0 (Kd.R k32 32 w73 w.heap.size (fun k_ => some k_ ≠ (v233 : Value).ownBlock ∧ k_ ≠ gb216) v230 y229) := ⟨h0_⟩
               have n1_ : Aside0 (Kd.R k32 32 w73 w.heap.size (fun k_ => some k_ ≠ (v230 : Value).ownBlock ∧ k_ ≠ gb216) v233 y232) := ⟨h1_⟩
               have n2_ : Aside0 (w73.heap[gb216]? = some (.cells #[.int .i64 a2_0, .int .i64 a2_1, .int .u64 a2_2, .int .i64 a2_3, .int .i64 a2_4, .int .i64 a2_5] 32 (0, 0))) := ⟨h2_⟩
               have n3_ : Aside0 (Below w.heap.size w w73) := ⟨h3_⟩
               clear BK216 HB h0_ h1_ h2_ h3_
               have HO231 := n0_
               have HO234 := n1_
               have BK216 := n2_
               have HB := n3_
               clear n0_ n1_ n2_ n3_
               have hHeld : w73.cell? ⟨gb216, 0, none⟩ = some (.int .i64 a2_0) ∧ w73.cell? ⟨gb216, 1, none⟩ = some (.int .i64 a2_1) ∧ w73.cell? ⟨gb216, 2, none⟩ = some (.int .u64 a2_2) ∧ w73.cell? ⟨gb216, 3, none⟩ = some (.int .i64 a2_3) ∧ w73.cell? ⟨gb216, 4, none⟩ = some (.int .i64 a2_4) ∧ w73.cell? ⟨gb216, 5, none⟩ = some (.int .i64 a2_5) := hS_
               obtain ⟨Ao75, co75, eo75⟩ := Kd.R_slice HO234.out
               (first | subst eo75 | (injection eo75 with f1_ f2_ f3_; have f4_ := f1_.symm; have f5_ := f3_.symm; clear f1_ f2_ f3_; subst f4_; subst f5_))
               refine norm_ (a' := ?_) ?_ ?_
               rotate_left
               ·
                simp only [putAll, Act.put, List.setIfInBounds_toArray, List.set_cons_zero, List.set_cons_succ]
                rfl
               refine one_ (i := 5) (N := some 70) #[true, true, true, true, true, true, false, false, false, false, false, false] rfl rfl (one_of HT_.out (by kernel_rfl)) (by decide) (fun K hK => ?_)
               refine Kd.R_append_rows_step k32 (w0 := w) w.heap.size (by rfl) (.tmp 67) (.tmp 69) 22 32 (.agg #[(.int .i64 0), (.int .i64 0), (.int .u64 0), (.int .i64 0), (.int .i64 0), (.int .i64 0)]) 48 rfl Try.underlying22 info32 rfl (by decide) (by omega) v230 y229 y232 _ _ _ (fun k_ => some k_ ≠ (.slice Ao75 y232.length co75 : Value).ownBlock ∧ k_ ≠ gb216) (fun _ => False) rfl rfl ?aO ?aR (fun _ _ h => h) (fun _ h => h.elim) ?aF ?aB ?aS ?aL ?_
               (case aR => repeat (first | exact (Kd.R_reads' HO234.out).2.2 | (with_reducible refine Kd.C_alloc ?_ _) | (with_reducible refine Kd.C_drewN ?_ _) | (with_reducible refine Kd.C_drew ?_)))
               (case aB => exact (by repeat (first | (with_reducible first | exact HB.out | apply below_alloc | apply pw_below_drewN | apply below_drew1 | refine below_set ?_ GE216.out) | exact HB.out)))
               (case aF => exact (fun k_ hk => ⟨Kd.fresh' (Kd.R_lt (by (with_reducible repeat (first | apply Kd.R_alloc | apply Kd.R_drewN | apply Kd.R_drew)); exact HO234.out)) k_ hk, Kd.freshB (g := gb216) (o := .cells #[.int .i64 a2_0, .int .i64 a2_1, .int .u64 a2_2, .int .i64 a2_3, .int .i64 a2_4, .int .i64 a2_5] 32 (0, 0)) (by (with_reducible repeat (first | refine blk_drewN ?_ _ | refine blk_drew ?_ | refine blk_alloc ?_ _)); exact BK216.out) k_ hk⟩))
               (case aO => exact (by (with_reducible repeat (first | apply Kd.R_alloc | apply Kd.R_drewN | apply Kd.R_drew)); exact HO231.out))
               (case aS => exact (below_size (by repeat (first | (with_reducible first | exact HB.out | apply below_alloc | apply pw_below_drewN | apply below_drew1 | refine below_set ?_ GE216.out) | exact HB.out))))
               (case aL => have := LMc27.out; omega)
               intro v236 w74 ho hb hg hat
               rw [← Ny235.out] at ho
               have n0_ := Aside0.mk (blk_grown (g := gb216) (o := .cells #[.int .i64 a2_0, .int .i64 a2_1, .int .u64 a2_2, .int .i64 a2_3, .int .i64 a2_4, .int .i64 a2_5] 32 (0, 0)) (by (with_reducible repeat (first | refine blk_drewN ?_ _ | refine blk_drew ?_ | refine blk_alloc ?_ _)); exact BK216.out) hg (Kd.R_away HO231.out (fun _ hk => hk.2)))
               have n1_ := Aside0.mk (Kd.R_after (ok := (fun k_ => k_ ≠ gb216)) (by (with_reducible repeat (first | apply Kd.R_alloc | apply Kd.R_drewN | apply Kd.R_drew)); exact Kd.R_mono HO234.out (fun _ hk => ⟨hk.2, hk.1⟩)) hg hat)
               have n2_ := Aside0.mk (hb)
               have n3_ := Aside0.mk (ho)
               clear BK216 HO234 HB HO231
               have BK216 := n0_
               have HO234 := n1_
               have HB := n2_
               have HO237 := n3_
               clear n0_ n1_ n2_ n3_ ho hb hg hat
               obtain ⟨Ao76, co76, eo76⟩ := Kd.R_slice HO237.out
               (first | subst eo76 | (injection eo76 with f1_ f2_ f3_; have f4_ := f1_.symm; have f5_ := f3_.symm; clear f1_ f2_ f3_; subst f4_; subst f5_))
               refine hK.out _ _ ⟨(blk_cell BK216.out 0).trans rfl, (blk_cell BK216.out 1).trans rfl, (blk_cell BK216.out 2).trans rfl, (blk_cell BK216.out 3).trans rfl, (blk_cell BK216.out 4).trans rfl, (blk_cell BK216.out 5).trans rfl⟩ (fun hHeld => ?_)
               clear hK K
               refine norm_ (a' := ?_) ?_ ?_
               rotate_left
               ·
                show Act.put _ (some 70) _ = _
                simp only [Act.put, List.setIfInBounds_toArray, List.set_cons_zero, List.set_cons_succ, i64_w, i32_w]
                rfl
               refine one_ (i := 6) (N := some 71) #[true, true, true, true, true, true, true, false, false, false, false, false] rfl rfl (one_of HT_.out (by kernel_rfl)) (by decide) (fun K hK => ?_)
               refine goes_ Try.func19 (by kernel_rfl) rfl #[.slice Ao76 y235.length co76] (by rfl) rfl rfl (by (try simp only [List.map_toArray, List.map_cons, List.map_nil]); first | done | rfl | (simp only [List.length_drop, List.length_take]; rfl)) ?_
               with_reducible refine (term_Check.calls kj15 _ _ y235 t238 t239 _ ?side1 ?side2 A28.out).mono ?_
               (case side1 => repeat (first | exact (Kd.R_reads' HO237.out).2.2 | (with_reducible refine Kd.C_alloc ?_ _) | (with_reducible refine Kd.C_drewN ?_ _) | (with_reducible refine Kd.C_drew ?_)))
               (case side2 => exact (Kd.R_reads' HO237.out).2.1)
               rintro e w77 ⟨rfl, hb⟩
               refine ⟨_, rfl, ?_⟩
               have n0_ := Aside0.mk (Kd.R_below (by (with_reducible repeat (first | apply Kd.R_alloc | apply Kd.R_drewN | apply Kd.R_drew)); exact HO234.out) hb)
               have n1_ := Aside0.mk (Kd.R_below (by (with_reducible repeat (first | apply Kd.R_alloc | apply Kd.R_drewN | apply Kd.R_drew)); exact HO237.out) hb)
               have n2_ := Aside0.mk (blk_below (g := gb216) (o := .cells #[.int .i64 a2_0, .int .i64 a2_1, .int .u64 a2_2, .int .i64 a2_3, .int .i64 a2_4, .int .i64 a2_5] 32 (0, 0)) (by (with_reducible repeat (first | refine blk_drewN ?_ _ | refine blk_drew ?_ | refine blk_alloc ?_ _)); exact BK216.out) hb)
               have n3_ := Aside0.mk (below_step (by repeat (first | (with_reducible first | exact HB.out | apply below_alloc | apply pw_below_drewN | apply below_drew1 | refine below_set ?_ GE216.out) | exact HB.out)) hb)
               clear HO234 HO237 BK216 HB
               have HO234 := n0_
               have HO237 := n1_
               have BK216 := n2_
               have HB := n3_
               clear n0_ n1_ n2_ n3_
               (try clear hb)
               (try clear hb2)
               (try clear hk)
               (try clear hi)
               refine hK.out _ _ ⟨(blk_cell BK216.out 0).trans rfl, (blk_cell BK216.out 1).trans rfl, (blk_cell BK216.out 2).trans rfl, (blk_cell BK216.out 3).trans rfl, (blk_cell BK216.out 4).trans rfl, (blk_cell BK216.out 5).trans rfl⟩ (fun hHeld => ?_)
               clear hK K
               refine norm_ (a' := ?_) ?_ ?_
               rotate_left
               ·
                show Act.put _ (some 71) _ = _
                simp only [Act.put, List.setIfInBounds_toArray, List.set_cons_zero, List.set_cons_succ, i64_w, i32_w]
                rfl
               refine pure_ (i := 7) (N := some 64) (v := ?_) (a' := ?_) #[true, true, true, true, true, true, true, true, false, false, false, false] rfl rfl (any_of HT_.out (by kernel_rfl)) (fun _ _ _ h => h) (Or.inl ⟨by rfl, ?_⟩) ?_ ?_
               rotate_left
               ·
                intro w'
                go_simp
                with_reducible rfl
               rotate_left
               ·
                simp only [Act.put, List.setIfInBounds_toArray, List.set_cons_zero, List.set_cons_succ, i64_w, i32_w]
                rfl
               refine pure_ (i := 8) (N := some 72) (v := ?_) (a' := ?_) #[true, true, true, true, true, true, true, true, true, false, false, false] rfl rfl (any_of HT_.out (by kernel_rfl)) (fun _ _ _ h => h) (Or.inl ⟨by rfl, ?_⟩) ?_ ?_
               rotate_left
               ·
                intro w'
                go_simp
                with_reducible rfl
               rotate_left
               ·
                simp only [Act.put, List.setIfInBounds_toArray, List.set_cons_zero, List.set_cons_succ, i64_w, i32_w]
                rfl
               refine pure_ (i := 9) (N := some 73) (v := ?_) (a' := ?_) #[true, true, true, true, true, true, true, true, true, true, false, false] rfl rfl (any_of HT_.out (by kernel_rfl)) (fun _ _ _ h => h) (Or.inl ⟨by rfl, ?_⟩) ?_ ?_
               rotate_left
               ·
                intro w'
                go_simp
                with_reducible rfl
               rotate_left
               ·
                simp only [Act.put, List.setIfInBounds_toArray, List.set_cons_zero, List.set_cons_succ, i64_w, i32_w]
                rfl
               refine pure_ (i := 10) (N := some 11) (v := ?_) (a' := ?_) #[true, true, true, true, true, true, true, true, true, true, true, false] rfl rfl (any_of HT_.out (by kernel_rfl)) (fun _ _ _ h => h) (Or.inl ⟨by rfl, ?_⟩) ?_ ?_
               rotate_left
               ·
                intro w'
                go_simp
                with_reducible rfl
               rotate_left
               ·
                simp only [Act.put, List.setIfInBounds_toArray, List.set_cons_zero, List.set_cons_succ, i64_w, i32_w]
                rfl
               refine pure_ (i := 11) (N := some 12) (v := ?_) (a' := ?_) #[true, true, true, true, true, true, true, true, true, true, true, true] rfl rfl (any_of HT_.out (by kernel_rfl)) (fun _ _ _ h => h) (Or.inl ⟨by rfl, ?_⟩) ?_ ?_
               rotate_left
               ·
                intro w'
                go_simp
                with_reducible rfl
               rotate_left
               ·
                simp only [Act.put, List.setIfInBounds_toArray, List.set_cons_zero, List.set_cons_succ, i64_w, i32_w]
                rfl
               refine done_ (done_of HT_.out (by kernel_rfl)) ?_
               try go_wp2
               go_ret
               exact ⟨by first | rfl | (simp [errW_none, errW_some] <;> rfl) | (simp [*, errW_none, errW_some] <;> rfl), by repeat (first | (with_reducible first | exact HB.out | apply below_alloc | apply pw_below_drewN | apply below_drew1 | refine below_set ?_ GE216.out) | exact HB.out)⟩
              ·
               rw [if_neg c66] at H
               have c66b0 : (t239 == t219) = false := beq_eq_false_iff_ne.mpr c66
               have c66b1 : (t239 != t219) = true := bne_iff_ne.mpr c66
               obtain rfl := Option.some.inj H
               try go_wp2
               have n0_ := Aside0.mk (blk_drew BK216.out)
               have n1_ := Aside0.mk (below_drew1 HB.out)
               clear BK216 HB
               have BK216 := n0_
               have HB := n1_
               clear n0_ n1_
               refine start_ (n := 12) (S := fun w' => w'.cell? ⟨gb216, 0, none⟩ = some (.int .i64 a2_0) ∧ w'.cell? ⟨gb216, 1, none⟩ = some (.int .i64 a2_1) ∧ w'.cell? ⟨gb216, 2, none⟩ = some (.int .u64 a2_2) ∧ w'.cell? ⟨gb216, 3, none⟩ = some (.int .i64 a2_3) ∧ w'.cell? ⟨gb216, 4, none⟩ = some (.int .i64 a2_4) ∧ w'.cell? ⟨gb216, 5, none⟩ = some (.int .i64 a2_5)) (ds := []) #[false, false, false, false, false, false, false, false, false, false, false, false] (by kernel_rfl) rfl rfl ⟨(blk_cell BK216.out 0).trans rfl, (blk_cell BK216.out 1).trans rfl, (blk_cell BK216.out 2).trans rfl, (blk_cell BK216.out 3).trans rfl, (blk_cell BK216.out 4).trans rfl, (blk_cell BK216.out 5).trans rfl⟩ (fun hHeld => ?_); refine with_tabW backreachlaw06_TermParts.tab9 backreachlaw06_TermParts.bits9 (fun HT_ HW_ => ?_)
               generalize wc.drew = w78 at BK216 HB hHeld ⊢
               refine pure_ (i := 1) (N := some 66) (v := ?_) (a' := ?_) #[false, true, false, false, false, false, false, false, false, false, false, false] rfl rfl (any_of HT_.out (by kernel_rfl)) (fun _ _ _ h => h) (Or.inl ⟨by rfl, ?_⟩) ?_ ?_
               rotate_left
               ·
                intro w'
                go_simp
                with_reducible rfl
               rotate_left
               ·
                simp only [Act.put, List.setIfInBounds_toArray, List.set_cons_zero, List.set_cons_succ, i64_w, i32_w]
                rfl
               refine take_ (i := 3) (N := some 68) (v := ?_) (a' := ?_) #[false, true, false, true, false, false, false, false, false, false, false, false] rfl rfl (take_ofW HT_.out HW_.out (by kernel_rfl)) (fun _ _ _ h => h) (Or.inl ⟨by rfl, ?_⟩) hHeld ?_ ?_
               rotate_left
               ·
                rintro w' ⟨s0, s1, s2, s3, s4, s5⟩
                go_simp
                with_reducible rfl
               rotate_left
               ·
                simp only [Act.put, List.setIfInBounds_toArray, List.set_cons_zero, List.set_cons_succ, i64_w, i32_w]
                rfl
               refine join_ (σ := Value × Value × Value) 7 #[true, true, true, true, true, false, false, false, false, false, false, false] (fun s_ => [(65, s_.1), (67, s_.2.1), (69, s_.2.2)]) (fun s_ w' => (w'.cell? ⟨gb216, 0, none⟩ = some (.int .i64 a2_0) ∧ w'.cell? ⟨gb216, 1, none⟩ = some (.int .i64 a2_1) ∧ w'.cell? ⟨gb216, 2, none⟩ = some (.int .u64 a2_2) ∧ w'.cell? ⟨gb216, 3, none⟩ = some (.int .i64 a2_3) ∧ w'.cell? ⟨gb216, 4, none⟩ = some (.int .i64 a2_4) ∧ w'.cell? ⟨gb216, 5, none⟩ = some (.int .i64 a2_5)) ∧ (Kd.R k32 32 w' w.heap.size (fun k_ => some k_ ≠ (s_.2.2 : Value).ownBlock ∧ k_ ≠ gb216) s_.2.1 y229) ∧ (Kd.R k32 32 w' w.heap.size (fun k_ => some k_ ≠ (s_.2.1 : Value).ownBlock ∧ k_ ≠ gb216) s_.2.2 y232) ∧ (w'.heap[gb216]? = some (.cells #[.int .i64 a2_0, .int .i64 a2_1, .int .u64 a2_2, .int .i64 a2_3, .int .i64 a2_4, .int .i64 a2_5] 32 (0, 0))) ∧ (Below w.heap.size w w')) ?_ ?_
               rotate_left
               ·
                intro hCont
                refine two_ (i := 0) (j := 4) (Ni := some 65) (Nj := some 69) #[true, true, false, true, false, false, false, false, false, false, false, false] #[false, true, false, true, true, false, false, false, false, false, false, false] rfl rfl rfl rfl (two_of HT_.out (by kernel_rfl)) (by decide) (by decide) (fun K hK => ?_) (fun K hK => ?_)
                ·
                 skip
                 refine Kd.R_lit_step k32 _ 32 ?hg (N := 65) ?hd (xs := ([] : List (S32))) (inner := []) (ok := fun _ => True) (okp := fun _ => True) ?hr ?hp (fun _ hk => hk) trivial (Below.refl _ _) (Nat.le_refl _) (by simp) ?_; (case hd => rfl); (case hg => rfl); (case hr => first | (go_simp; done) | (go_simp; rfl)); (case hp => exact (Reps.none _ _))
                 intro v227 w79 ho80 hb hg_ hnew_
                 clear hg_ hnew_
                 (first | rw [← Ny226.out] at ho80 | (simp only [Int.reduceToNat] at ho80; rw [← Ny226.out] at ho80))
                 have n0_ := Aside0.mk (Kd.R_lower (Kd.R_newB ho80 (g := gb216) (o := .cells #[.int .i64 a2_0, .int .i64 a2_1, .int .u64 a2_2, .int .i64 a2_3, .int .i64 a2_4, .int .i64 a2_5] 32 (0, 0)) (by (with_reducible repeat (first | refine blk_drewN ?_ _ | refine blk_drew ?_ | refine blk_alloc ?_ _)); exact BK216.out)) (below_size (by repeat (first | (with_reducible first | exact HB.out | apply below_alloc | apply pw_below_drewN | apply below_drew1 | refine below_set ?_ GE216.out) | exact HB.out))))
                 have n1_ := Aside0.mk (blk_below (g := gb216) (o := .cells #[.int .i64 a2_0, .int .i64 a2_1, .int .u64 a2_2, .int .i64 a2_3, .int .i64 a2_4, .int .i64 a2_5] 32 (0, 0)) (by (with_reducible repeat (first | refine blk_drewN ?_ _ | refine blk_drew ?_ | refine blk_alloc ?_ _)); exact BK216.out) hb)
                 have n2_ := Aside0.mk (below_step (by repeat (first | (with_reducible first | exact HB.out | apply below_alloc | apply pw_below_drewN | apply below_drew1 | refine below_set ?_ GE216.out) | exact HB.out)) hb)
                 clear BK216 HB
                 have HO228 := n0_
                 have BK216 := n1_
                 have HB := n2_
                 clear n0_ n1_ n2_ hb ho80
                 refine hK.out _ _ ⟨(blk_cell BK216.out 0).trans rfl, (blk_cell BK216.out 1).trans rfl, (blk_cell BK216.out 2).trans rfl, (blk_cell BK216.out 3).trans rfl, (blk_cell BK216.out 4).trans rfl, (blk_cell BK216.out 5).trans rfl⟩ (fun hHeld => ?_)
                 clear hK K
                 refine norm_ (a' := ?_) ?_ ?_
                 rotate_left
                 ·
                  show Act.put _ (some 65) _ = _
                  simp only [Act.put, List.setIfInBounds_toArray, List.set_cons_zero, List.set_cons_succ, i64_w, i32_w]
                  rfl
                 refine two_ (i := 2) (j := 4) (Ni := some 67) (Nj := some 69) #[true, true, true, true, false, false, false, false, false, false, false, false] #[true, true, false, true, true, false, false, false, false, false, false, false] rfl rfl rfl rfl (two_of HT_.out (by kernel_rfl)) (by decide) (by decide) (fun K hK => ?_) (fun K hK => ?_)
                 ·
                  skip
                  refine Kd.R_append_rows_step k32 (w0 := w) w.heap.size (by rfl) (.tmp 65) (.tmp 66) 22 32 (.agg #[(.int .i64 0), (.int .i64 0), (.int .u64 0), (.int .i64 0), (.int .i64 0), (.int .i64 0)]) 48 rfl Try.underlying22 info32 rfl (by decide) (by omega) v227 y226 l0 _ _ _ (fun k_ => k_ ≠ gb216) (fun _ => False) rfl rfl ?aO ?aR (fun _ _ h => h) (fun _ h => h.elim) ?aF ?aB ?aS ?aL ?_
                  (case aR => repeat (first | exact (Kd.C_below HR0.out HB.out) | (with_reducible refine Kd.C_alloc ?_ _) | (with_reducible refine Kd.C_drewN ?_ _) | (with_reducible refine Kd.C_drew ?_)))
                  (case aB => exact (by repeat (first | (with_reducible first | exact HB.out | apply below_alloc | apply pw_below_drewN | apply below_drew1 | refine below_set ?_ GE216.out) | exact HB.out)))
                  (case aF => exact (fun k_ hk => Kd.freshB (g := gb216) (o := .cells #[.int .i64 a2_0, .int .i64 a2_1, .int .u64 a2_2, .int .i64 a2_3, .int .i64 a2_4, .int .i64 a2_5] 32 (0, 0)) (by (with_reducible repeat (first | refine blk_drewN ?_ _ | refine blk_drew ?_ | refine blk_alloc ?_ _)); exact BK216.out) k_ hk))
                  (case aO => exact (by (with_reducible repeat (first | apply Kd.R_alloc | apply Kd.R_drewN | apply Kd.R_drew)); exact Kd.R_mono HO228.out (fun _ hk => hk.2)))
                  (case aS => exact (below_size (by repeat (first | (with_reducible first | exact HB.out | apply below_alloc | apply pw_below_drewN | apply below_drew1 | refine below_set ?_ GE216.out) | exact HB.out))))
                  (case aL => have := LMc26.out; omega)
                  intro v230 w81 ho hb hg hat
                  rw [← Ny229.out] at ho
                  have n0_ := Aside0.mk (blk_grown (g := gb216) (o := .cells #[.int .i64 a2_0, .int .i64 a2_1, .int .u64 a2_2, .int .i64 a2_3, .int .i64 a2_4, .int .i64 a2_5] 32 (0, 0)) (by (with_reducible repeat (first | refine blk_drewN ?_ _ | refine blk_drew ?_ | refine blk_alloc ?_ _)); exact BK216.out) hg (Kd.R_away HO228.out (fun _ hk => hk.2)))
                  have n1_ := Aside0.mk (hb)
                  have n2_ := Aside0.mk (ho)
                  clear BK216 HB HO228
                  have BK216 := n0_
                  have HB := n1_
                  have HO231 := n2_
                  clear n0_ n1_ n2_ ho hb hg hat
                  refine hK.out _ _ ⟨(blk_cell BK216.out 0).trans rfl, (blk_cell BK216.out 1).trans rfl, (blk_cell BK216.out 2).trans rfl, (blk_cell BK216.out 3).trans rfl, (blk_cell BK216.out 4).trans rfl, (blk_cell BK216.out 5).trans rfl⟩ (fun hHeld => ?_)
                  clear hK K
                  refine norm_ (a' := ?_) ?_ ?_
                  rotate_left
                  ·
                   show Act.put _ (some 67) _ = _
                   simp only [Act.put, List.setIfInBounds_toArray, List.set_cons_zero, List.set_cons_succ, i64_w, i32_w]
                   rfl
                  refine one_ (i := 4) (N := some 69) #[true, true, true, true, true, false, false, false, false, false, false, false] rfl rfl (one_of HT_.out (by kernel_rfl)) (by decide) (fun K hK => ?_)
                  refine Kd.R_lit_step k32 _ 32 ?hg (N := 69) ?hd (xs := ([(⟨a2_0, a2_1, a2_2, (⟨a2_3, a2_4, a2_5⟩ : S30)⟩ : S32)] : List (S32))) (inner := [.int .i64 a2_0, .int .i64 a2_1, .int .u64 a2_2, .int .i64 a2_3, .int .i64 a2_4, .int .i64 a2_5]) (ok := fun _ => True) (okp := fun _ => True) ?hr ?hp (fun _ hk => hk) trivial (Below.refl _ _) (Nat.le_refl _) (by simp) ?_; (case hd => rfl); (case hg => rfl); (case hr => first | (go_simp; done) | (go_simp; rfl)); (case hp => exact (Reps.c6 (show Kd.M k32 _ _ _ (⟨a2_0, a2_1, a2_2, (⟨a2_3, a2_4, a2_5⟩ : S30)⟩ : S32) [.int .i64 a2_0, .int .i64 a2_1, .int .u64 a2_2, .int .i64 a2_3, .int .i64 a2_4, .int .i64 a2_5] from (k32_mkM _ _ _ (⟨a2_0, a2_1, a2_2, (⟨a2_3, a2_4, a2_5⟩ : S30)⟩ : S32) )) (Reps.none _ _)))
                  intro v233 w82 ho83 hb hg_ hnew_
                  clear hg_ hnew_
                  (first | rw [← Ny232.out] at ho83 | (simp only [Int.reduceToNat] at ho83; rw [← Ny232.out] at ho83))
                  have n0_ := Aside0.mk (Kd.R_elder' (by (with_reducible repeat (first | apply Kd.R_alloc | apply Kd.R_drewN | apply Kd.R_drew)); exact HO231.out) (Kd.R_base ho83) hb)
                  have n1_ := Aside0.mk (Kd.R_lower (Kd.R_newB (Kd.R_new' ho83 (Kd.R_lt (by (with_reducible repeat (first | apply Kd.R_alloc | apply Kd.R_drewN | apply Kd.R_drew)); exact HO231.out))) (g := gb216) (o := .cells #[.int .i64 a2_0, .int .i64 a2_1, .int .u64 a2_2, .int .i64 a2_3, .int .i64 a2_4, .int .i64 a2_5] 32 (0, 0)) (by (with_reducible repeat (first | refine blk_drewN ?_ _ | refine blk_drew ?_ | refine blk_alloc ?_ _)); exact BK216.out)) (below_size (by repeat (first | (with_reducible first | exact HB.out | apply below_alloc | apply pw_below_drewN | apply below_drew1 | refine below_set ?_ GE216.out) | exact HB.out))))
                  have n2_ := Aside0.mk (blk_below (g := gb216) (o := .cells #[.int .i64 a2_0, .int .i64 a2_1, .int .u64 a2_2, .int .i64 a2_3, .int .i64 a2_4, .int .i64 a2_5] 32 (0, 0)) (by (with_reducible repeat (first | refine blk_drewN ?_ _ | refine blk_drew ?_ | refine blk_alloc ?_ _)); exact BK216.out) hb)
                  have n3_ := Aside0.mk (below_step (by repeat (first | (with_reducible first | exact HB.out | apply below_alloc | apply pw_below_drewN | apply below_drew1 | refine below_set ?_ GE216.out) | exact HB.out)) hb)
                  clear HO231 BK216 HB
                  have HO231 := n0_
                  have HO234 := n1_
                  have BK216 := n2_
                  have HB := n3_
                  clear n0_ n1_ n2_ n3_ hb ho83
                  refine hK.out _ _ ⟨(blk_cell BK216.out 0).trans rfl, (blk_cell BK216.out 1).trans rfl, (blk_cell BK216.out 2).trans rfl, (blk_cell BK216.out 3).trans rfl, (blk_cell BK216.out 4).trans rfl, (blk_cell BK216.out 5).trans rfl⟩ (fun hHeld => ?_)
                  clear hK K
                  refine norm_ (a' := ?_) ?_ ?_
                  rotate_left
                  ·
                   show Act.put _ (some 69) _ = _
                   simp only [Act.put, List.setIfInBounds_toArray, List.set_cons_zero, List.set_cons_succ, i64_w, i32_w]
                   rfl
                  exact norm_ (by simp only [putAll, Act.put, List.setIfInBounds_toArray, List.set_cons_zero, List.set_cons_succ]) (hCont (v227, v230, v233) _ ⟨hHeld, (by (with_reducible repeat (first | apply Kd.R_alloc | apply Kd.R_drewN | apply Kd.R_drew)); exact Kd.R_mono HO231.out (fun _ hk => ⟨hk.2, hk.1⟩)), (by (with_reducible repeat (first | apply Kd.R_alloc | apply Kd.R_drewN | apply Kd.R_drew)); exact Kd.R_mono HO234.out (fun _ hk => ⟨hk.1.2, hk.2⟩)), (by (with_reducible repeat (first | refine blk_drewN ?_ _ | refine blk_drew ?_ | refine blk_alloc ?_ _)); exact BK216.out), (by repeat (first | (with_reducible first | exact HB.out | apply below_alloc | apply pw_below_drewN | apply below_drew1 | refine below_set ?_ GE216.out) | exact HB.out))⟩)
                 ·
                  skip
                  refine Kd.R_lit_step k32 _ 32 ?hg (N := 69) ?hd (xs := ([(⟨a2_0, a2_1, a2_2, (⟨a2_3, a2_4, a2_5⟩ : S30)⟩ : S32)] : List (S32))) (inner := [.int .i64 a2_0, .int .i64 a2_1, .int .u64 a2_2, .int .i64 a2_3, .int .i64 a2_4, .int .i64 a2_5]) (ok := fun _ => True) (okp := fun _ => True) ?hr ?hp (fun _ hk => hk) trivial (Below.refl _ _) (Nat.le_refl _) (by simp) ?_; (case hd => rfl); (case hg => rfl); (case hr => first | (go_simp; done) | (go_simp; rfl)); (case hp => exact (Reps.c6 (show Kd.M k32 _ _ _ (⟨a2_0, a2_1, a2_2, (⟨a2_3, a2_4, a2_5⟩ : S30)⟩ : S32) [.int .i64 a2_0, .int .i64 a2_1, .int .u64 a2_2, .int .i64 a2_3, .int .i64 a2_4, .int .i64 a2_5] from (k32_mkM _ _ _ (⟨a2_0, a2_1, a2_2, (⟨a2_3, a2_4, a2_5⟩ : S30)⟩ : S32) )) (Reps.none _ _)))
                  intro v233 w81 ho82 hb hg_ hnew_
                  clear hg_ hnew_
                  (first | rw [← Ny232.out] at ho82 | (simp only [Int.reduceToNat] at ho82; rw [← Ny232.out] at ho82))
                  have n0_ := Aside0.mk (Kd.R_elder' (by (with_reducible repeat (first | apply Kd.R_alloc | apply Kd.R_drewN | apply Kd.R_drew)); exact HO228.out) (Kd.R_base ho82) hb)
                  have n1_ := Aside0.mk (Kd.R_lower (Kd.R_newB (Kd.R_new' ho82 (Kd.R_lt (by (with_reducible repeat (first | apply Kd.R_alloc | apply Kd.R_drewN | apply Kd.R_drew)); exact HO228.out))) (g := gb216) (o := .cells #[.int .i64 a2_0, .int .i64 a2_1, .int .u64 a2_2, .int .i64 a2_3, .int .i64 a2_4, .int .i64 a2_5] 32 (0, 0)) (by (with_reducible repeat (first | refine blk_drewN ?_ _ | refine blk_drew ?_ | refine blk_alloc ?_ _)); exact BK216.out)) (below_size (by repeat (first | (with_reducible first | exact HB.out | apply below_alloc | apply pw_below_drewN | apply below_drew1 | refine below_set ?_ GE216.out) | exact HB.out))))
                  have n2_ := Aside0.mk (blk_below (g := gb216) (o := .cells #[.int .i64 a2_0, .int .i64 a2_1, .int .u64 a2_2, .int .i64 a2_3, .int .i64 a2_4, .int .i64 a2_5] 32 (0, 0)) (by (with_reducible repeat (first | refine blk_drewN ?_ _ | refine blk_drew ?_ | refine blk_alloc ?_ _)); exact BK216.out) hb)
                  have n3_ := Aside0.mk (below_step (by repeat (first | (with_reducible first | exact HB.out | apply below_alloc | apply pw_below_drewN | apply below_drew1 | refine below_set ?_ GE216.out) | exact HB.out)) hb)
                  clear HO228 BK216 HB
                  have HO228 := n0_
                  have HO234 := n1_
                  have BK216 := n2_
                  have HB := n3_
                  clear n0_ n1_ n2_ n3_ hb ho82
                  refine hK.out _ _ ⟨(blk_cell BK216.out 0).trans rfl, (blk_cell BK216.out 1).trans rfl, (blk_cell BK216.out 2).trans rfl, (blk_cell BK216.out 3).trans rfl, (blk_cell BK216.out 4).trans rfl, (blk_cell BK216.out 5).trans rfl⟩ (fun hHeld => ?_)
                  clear hK K
                  refine norm_ (a' := ?_) ?_ ?_
                  rotate_left
                  ·
                   show Act.put _ (some 69) _ = _
                   simp only [Act.put, List.setIfInBounds_toArray, List.set_cons_zero, List.set_cons_succ, i64_w, i32_w]
                   rfl
                  refine one_ (i := 2) (N := some 67) #[true, true, true, true, true, false, false, false, false, false, false, false] rfl rfl (one_of HT_.out (by kernel_rfl)) (by decide) (fun K hK => ?_)
                  refine Kd.R_append_rows_step k32 (w0 := w) w.heap.size (by rfl) (.tmp 65) (.tmp 66) 22 32 (.agg #[(.int .i64 0), (.int .i64 0), (.int .u64 0), (.int .i64 0), (.int .i64 0), (.int .i64 0)]) 48 rfl Try.underlying22 info32 rfl (by decide) (by omega) v227 y226 l0 _ _ _ (fun k_ => some k_ ≠ (v233 : Value).ownBlock ∧ k_ ≠ gb216) (fun _ => False) rfl rfl ?aO ?aR (fun _ _ h => h) (fun _ h => h.elim) ?aF ?aB ?aS ?aL ?_
                  (case aR => repeat (first | exact (Kd.C_below HR0.out HB.out) | (with_reducible refine Kd.C_alloc ?_ _) | (with_reducible refine Kd.C_drewN ?_ _) | (with_reducible refine Kd.C_drew ?_)))
                  (case aB => exact (by repeat (first | (with_reducible first | exact HB.out | apply below_alloc | apply pw_below_drewN | apply below_drew1 | refine below_set ?_ GE216.out) | exact HB.out)))
                  (case aF => exact (fun k_ hk => ⟨Kd.fresh' (Kd.R_lt (by (with_reducible repeat (first | apply Kd.R_alloc | apply Kd.R_drewN | apply Kd.R_drew)); exact HO234.out)) k_ hk, Kd.freshB (g := gb216) (o := .cells #[.int .i64 a2_0, .int .i64 a2_1, .int .u64 a2_2, .int .i64 a2_3, .int .i64 a2_4, .int .i64 a2_5] 32 (0, 0)) (by (with_reducible repeat (first | refine blk_drewN ?_ _ | refine blk_drew ?_ | refine blk_alloc ?_ _)); exact BK216.out) k_ hk⟩))
                  (case aO => exact (by (with_reducible repeat (first | apply Kd.R_alloc | apply Kd.R_drewN | apply Kd.R_drew)); exact Kd.R_mono HO228.out (fun _ hk => ⟨hk.2, hk.1.2⟩)))
                  (case aS => exact (below_size (by repeat (first | (with_reducible first | exact HB.out | apply below_alloc | apply pw_below_drewN | apply below_drew1 | refine below_set ?_ GE216.out) | exact HB.out))))
                  (case aL => have := LMc26.out; omega)
                  intro v230 w83 ho hb hg hat
                  rw [← Ny229.out] at ho
                  have n0_ := Aside0.mk (blk_grown (g := gb216) (o := .cells #[.int .i64 a2_0, .int .i64 a2_1, .int .u64 a2_2, .int .i64 a2_3, .int .i64 a2_4, .int .i64 a2_5] 32 (0, 0)) (by (with_reducible repeat (first | refine blk_drewN ?_ _ | refine blk_drew ?_ | refine blk_alloc ?_ _)); exact BK216.out) hg (Kd.R_away HO228.out (fun _ hk => hk.1.2)))
                  have n1_ := Aside0.mk (Kd.R_after (ok := (fun k_ => k_ ≠ gb216)) (by (with_reducible repeat (first | apply Kd.R_alloc | apply Kd.R_drewN | apply Kd.R_drew)); exact Kd.R_mono HO234.out (fun _ hk => ⟨hk.2, hk.1.2⟩)) hg hat)
                  have n2_ := Aside0.mk (hb)
                  have n3_ := Aside0.mk (ho)
                  clear BK216 HO234 HB HO228
                  have BK216 := n0_
                  have HO234 := n1_
                  have HB := n2_
                  have HO231 := n3_
                  clear n0_ n1_ n2_ n3_ ho hb hg hat
                  refine hK.out _ _ ⟨(blk_cell BK216.out 0).trans rfl, (blk_cell BK216.out 1).trans rfl, (blk_cell BK216.out 2).trans rfl, (blk_cell BK216.out 3).trans rfl, (blk_cell BK216.out 4).trans rfl, (blk_cell BK216.out 5).trans rfl⟩ (fun hHeld => ?_)
                  clear hK K
                  refine norm_ (a' := ?_) ?_ ?_
                  rotate_left
                  ·
                   show Act.put _ (some 67) _ = _
                   simp only [Act.put, List.setIfInBounds_toArray, List.set_cons_zero, List.set_cons_succ, i64_w, i32_w]
                   rfl
                  exact norm_ (by simp only [putAll, Act.put, List.setIfInBounds_toArray, List.set_cons_zero, List.set_cons_succ]) (hCont (v227, v230, v233) _ ⟨hHeld, (by (with_reducible repeat (first | apply Kd.R_alloc | apply Kd.R_drewN | apply Kd.R_drew)); exact HO231.out), (by (with_reducible repeat (first | apply Kd.R_alloc | apply Kd.R_drewN | apply Kd.R_drew)); exact Kd.R_mono HO234.out (fun _ hk => ⟨hk.2, hk.1⟩)), (by (with_reducible repeat (first | refine blk_drewN ?_ _ | refine blk_drew ?_ | refine blk_alloc ?_ _)); exact BK216.out), (by repeat (first | (with_reducible first | exact HB.out | apply below_alloc | apply pw_below_drewN | apply below_drew1 | refine below_set ?_ GE216.out) | exact HB.out))⟩)
                ·
                 skip
                 refine Kd.R_lit_step k32 _ 32 ?hg (N := 69) ?hd (xs := ([(⟨a2_0, a2_1, a2_2, (⟨a2_3, a2_4, a2_5⟩ : S30)⟩ : S32)] : List (S32))) (inner := [.int .i64 a2_0, .int .i64 a2_1, .int .u64 a2_2, .int .i64 a2_3, .int .i64 a2_4, .int .i64 a2_5]) (ok := fun _ => True) (okp := fun _ => True) ?hr ?hp (fun _ hk => hk) trivial (Below.refl _ _) (Nat.le_refl _) (by simp) ?_; (case hd => rfl); (case hg => rfl); (case hr => first | (go_simp; done) | (go_simp; rfl)); (case hp => exact (Reps.c6 (show Kd.M k32 _ _ _ (⟨a2_0, a2_1, a2_2, (⟨a2_3, a2_4, a2_5⟩ : S30)⟩ : S32) [.int .i64 a2_0, .int .i64 a2_1, .int .u64 a2_2, .int .i64 a2_3, .int .i64 a2_4, .int .i64 a2_5] from (k32_mkM _ _ _ (⟨a2_0, a2_1, a2_2, (⟨a2_3, a2_4, a2_5⟩ : S30)⟩ : S32) )) (Reps.none _ _)))
                 intro v233 w79 ho80 hb hg_ hnew_
                 clear hg_ hnew_
                 (first | rw [← Ny232.out] at ho80 | (simp only [Int.reduceToNat] at ho80; rw [← Ny232.out] at ho80))
                 have n0_ := Aside0.mk (Kd.R_lower (Kd.R_newB ho80 (g := gb216) (o := .cells #[.int .i64 a2_0, .int .i64 a2_1, .int .u64 a2_2, .int .i64 a2_3, .int .i64 a2_4, .int .i64 a2_5] 32 (0, 0)) (by (with_reducible repeat (first | refine blk_drewN ?_ _ | refine blk_drew ?_ | refine blk_alloc ?_ _)); exact BK216.out)) (below_size (by repeat (first | (with_reducible first | exact HB.out | apply below_alloc | apply pw_below_drewN | apply below_drew1 | refine below_set ?_ GE216.out) | exact HB.out))))
                 have n1_ := Aside0.mk (blk_below (g := gb216) (o := .cells #[.int .i64 a2_0, .int .i64 a2_1, .int .u64 a2_2, .int .i64 a2_3, .int .i64 a2_4, .int .i64 a2_5] 32 (0, 0)) (by (with_reducible repeat (first | refine blk_drewN ?_ _ | refine blk_drew ?_ | refine blk_alloc ?_ _)); exact BK216.out) hb)
                 have n2_ := Aside0.mk (below_step (by repeat (first | (with_reducible first | exact HB.out | apply below_alloc | apply pw_below_drewN | apply below_drew1 | refine below_set ?_ GE216.out) | exact HB.out)) hb)
                 clear BK216 HB
                 have HO234 := n0_
                 have BK216 := n1_
                 have HB := n2_
                 clear n0_ n1_ n2_ hb ho80
                 refine hK.out _ _ ⟨(blk_cell BK216.out 0).trans rfl, (blk_cell BK216.out 1).trans rfl, (blk_cell BK216.out 2).trans rfl, (blk_cell BK216.out 3).trans rfl, (blk_cell BK216.out 4).trans rfl, (blk_cell BK216.out 5).trans rfl⟩ (fun hHeld => ?_)
                 clear hK K
                 refine norm_ (a' := ?_) ?_ ?_
                 rotate_left
                 ·
                  show Act.put _ (some 69) _ = _
                  simp only [Act.put, List.setIfInBounds_toArray, List.set_cons_zero, List.set_cons_succ, i64_w, i32_w]
                  rfl
                 refine one_ (i := 0) (N := some 65) #[true, true, false, true, true, false, false, false, false, false, false, false] rfl rfl (one_of HT_.out (by kernel_rfl)) (by decide) (fun K hK => ?_)
                 refine Kd.R_lit_step k32 _ 32 ?hg (N := 65) ?hd (xs := ([] : List (S32))) (inner := []) (ok := fun _ => True) (okp := fun _ => True) ?hr ?hp (fun _ hk => hk) trivial (Below.refl _ _) (Nat.le_refl _) (by simp) ?_; (case hd => rfl); (case hg => rfl); (case hr => first | (go_simp; done) | (go_simp; rfl)); (case hp => exact (Reps.none _ _))
                 intro v227 w81 ho82 hb hg_ hnew_
                 clear hg_ hnew_
                 (first | rw [← Ny226.out] at ho82 | (simp only [Int.reduceToNat] at ho82; rw [← Ny226.out] at ho82))
                 have n0_ := Aside0.mk (Kd.R_elder' (by (with_reducible repeat (first | apply Kd.R_alloc | apply Kd.R_drewN | apply Kd.R_drew)); exact HO234.out) (Kd.R_base ho82) hb)
                 have n1_ := Aside0.mk (Kd.R_lower (Kd.R_newB (Kd.R_new' ho82 (Kd.R_lt (by (with_reducible repeat (first | apply Kd.R_alloc | apply Kd.R_drewN | apply Kd.R_drew)); exact HO234.out))) (g := gb216) (o := .cells #[.int .i64 a2_0, .int .i64 a2_1, .int .u64 a2_2, .int .i64 a2_3, .int .i64 a2_4, .int .i64 a2_5] 32 (0, 0)) (by (with_reducible repeat (first | refine blk_drewN ?_ _ | refine blk_drew ?_ | refine blk_alloc ?_ _)); exact BK216.out)) (below_size (by repeat (first | (with_reducible first | exact HB.out | apply below_alloc | apply pw_below_drewN | apply below_drew1 | refine below_set ?_ GE216.out) | exact HB.out))))
                 have n2_ := Aside0.mk (blk_below (g := gb216) (o := .cells #[.int .i64 a2_0, .int .i64 a2_1, .int .u64 a2_2, .int .i64 a2_3, .int .i64 a2_4, .int .i64 a2_5] 32 (0, 0)) (by (with_reducible repeat (first | refine blk_drewN ?_ _ | refine blk_drew ?_ | refine blk_alloc ?_ _)); exact BK216.out) hb)
                 have n3_ := Aside0.mk (below_step (by repeat (first | (with_reducible first | exact HB.out | apply below_alloc | apply pw_below_drewN | apply below_drew1 | refine below_set ?_ GE216.out) | exact HB.out)) hb)
                 clear HO234 BK216 HB
                 have HO234 := n0_
                 have HO228 := n1_
                 have BK216 := n2_
                 have HB := n3_
                 clear n0_ n1_ n2_ n3_ hb ho82
                 refine hK.out _ _ ⟨(blk_cell BK216.out 0).trans rfl, (blk_cell BK216.out 1).trans rfl, (blk_cell BK216.out 2).trans rfl, (blk_cell BK216.out 3).trans rfl, (blk_cell BK216.out 4).trans rfl, (blk_cell BK216.out 5).trans rfl⟩ (fun hHeld => ?_)
                 clear hK K
                 refine norm_ (a' := ?_) ?_ ?_
                 rotate_left
                 ·
                  show Act.put _ (some 65) _ = _
                  simp only [Act.put, List.setIfInBounds_toArray, List.set_cons_zero, List.set_cons_succ, i64_w, i32_w]
                  rfl
                 refine one_ (i := 2) (N := some 67) #[true, true, true, true, true, false, false, false, false, false, false, false] rfl rfl (one_of HT_.out (by kernel_rfl)) (by decide) (fun K hK => ?_)
                 refine Kd.R_append_rows_step k32 (w0 := w) w.heap.size (by rfl) (.tmp 65) (.tmp 66) 22 32 (.agg #[(.int .i64 0), (.int .i64 0), (.int .u64 0), (.int .i64 0), (.int .i64 0), (.int .i64 0)]) 48 rfl Try.underlying22 info32 rfl (by decide) (by omega) v227 y226 l0 _ _ _ (fun k_ => some k_ ≠ (v233 : Value).ownBlock ∧ k_ ≠ gb216) (fun _ => False) rfl rfl ?aO ?aR (fun _ _ h => h) (fun _ h => h.elim) ?aF ?aB ?aS ?aL ?_
                 (case aR => repeat (first | exact (Kd.C_below HR0.out HB.out) | (with_reducible refine Kd.C_alloc ?_ _) | (with_reducible refine Kd.C_drewN ?_ _) | (with_reducible refine Kd.C_drew ?_)))
                 (case aB => exact (by repeat (first | (with_reducible first | exact HB.out | apply below_alloc | apply pw_below_drewN | apply below_drew1 | refine below_set ?_ GE216.out) | exact HB.out)))
                 (case aF => exact (fun k_ hk => ⟨Kd.fresh' (Kd.R_lt (by (with_reducible repeat (first | apply Kd.R_alloc | apply Kd.R_drewN | apply Kd.R_drew)); exact HO234.out)) k_ hk, Kd.freshB (g := gb216) (o := .cells #[.int .i64 a2_0, .int .i64 a2_1, .int .u64 a2_2, .int .i64 a2_3, .int .i64 a2_4, .int .i64 a2_5] 32 (0, 0)) (by (with_reducible repeat (first | refine blk_drewN ?_ _ | refine blk_drew ?_ | refine blk_alloc ?_ _)); exact BK216.out) k_ hk⟩))
                 (case aO => exact (by (with_reducible repeat (first | apply Kd.R_alloc | apply Kd.R_drewN | apply Kd.R_drew)); exact Kd.R_mono HO228.out (fun _ hk => ⟨hk.1.2, hk.2⟩)))
                 (case aS => exact (below_size (by repeat (first | (with_reducible first | exact HB.out | apply below_alloc | apply pw_below_drewN | apply below_drew1 | refine below_set ?_ GE216.out) | exact HB.out))))
                 (case aL => have := LMc26.out; omega)
                 intro v230 w83 ho hb hg hat
                 rw [← Ny229.out] at ho
                 have n0_ := Aside0.mk (blk_grown (g := gb216) (o := .cells #[.int .i64 a2_0, .int .i64 a2_1, .int .u64 a2_2, .int .i64 a2_3, .int .i64 a2_4, .int .i64 a2_5] 32 (0, 0)) (by (with_reducible repeat (first | refine blk_drewN ?_ _ | refine blk_drew ?_ | refine blk_alloc ?_ _)); exact BK216.out) hg (Kd.R_away HO228.out (fun _ hk => hk.2)))
                 have n1_ := Aside0.mk (Kd.R_after (ok := (fun k_ => k_ ≠ gb216)) (by (with_reducible repeat (first | apply Kd.R_alloc | apply Kd.R_drewN | apply Kd.R_drew)); exact Kd.R_mono HO234.out (fun _ hk => ⟨hk.1.2, hk.2⟩)) hg hat)
                 have n2_ := Aside0.mk (hb)
                 have n3_ := Aside0.mk (ho)
                 clear BK216 HO234 HB HO228
                 have BK216 := n0_
                 have HO234 := n1_
                 have HB := n2_
                 have HO231 := n3_
                 clear n0_ n1_ n2_ n3_ ho hb hg hat
                 refine hK.out _ _ ⟨(blk_cell BK216.out 0).trans rfl, (blk_cell BK216.out 1).trans rfl, (blk_cell BK216.out 2).trans rfl, (blk_cell BK216.out 3).trans rfl, (blk_cell BK216.out 4).trans rfl, (blk_cell BK216.out 5).trans rfl⟩ (fun hHeld => ?_)
                 clear hK K
                 refine norm_ (a' := ?_) ?_ ?_
                 rotate_left
                 ·
                  show Act.put _ (some 67) _ = _
                  simp only [Act.put, List.setIfInBounds_toArray, List.set_cons_zero, List.set_cons_succ, i64_w, i32_w]
                  rfl
                 exact norm_ (by simp only [putAll, Act.put, List.setIfInBounds_toArray, List.set_cons_zero, List.set_cons_succ]) (hCont (v227, v230, v233) _ ⟨hHeld, (by (with_reducible repeat (first | apply Kd.R_alloc | apply Kd.R_drewN | apply Kd.R_drew)); exact HO231.out), (by (with_reducible repeat (first | apply Kd.R_alloc | apply Kd.R_drewN | apply Kd.R_drew)); exact Kd.R_mono HO234.out (fun _ hk => ⟨hk.2, hk.1⟩)), (by (with_reducible repeat (first | refine blk_drewN ?_ _ | refine blk_drew ?_ | refine blk_alloc ?_ _)); exact BK216.out), (by repeat (first | (with_reducible first | exact HB.out | apply below_alloc | apply pw_below_drewN | apply below_drew1 | refine below_set ?_ GE216.out) | exact HB.out))⟩)
               rintro ⟨v227, v230, v233⟩ w84 ⟨hS_, h0_, h1_, h2_, h3_⟩
               have n0_ : Aside0 (Kd.R k32 32 w84 w.heap.size (fun k_ => some k_ ≠ (v233 : Value).ownBlock ∧ k_ ≠ gb216) v230 y229) := ⟨h0_⟩
               have n1_ : Aside0 (Kd.R k32 32 w84 w.heap.size (fun k_ => some k_ ≠ (v230 : Value).ownBlock ∧ k_ ≠ gb216) v233 y232) := ⟨h1_⟩
               have n2_ : Aside0 (w84.heap[gb216]? = some (.cells #[.int .i64 a2_0, .int .i64 a2_1, .int .u64 a2_2, .int .i64 a2_3, .int .i64 a2_4, .int .i64 a2_5] 32 (0, 0))) := ⟨h2_⟩
               have n3_ : Aside0 (Below w.heap.size w w84) := ⟨h3_⟩
               clear BK216 HB h0_ h1_ h2_ h3_
               have HO231 := n0_
               have HO234 := n1_
               have BK216 := n2_
               have HB := n3_
               clear n0_ n1_ n2_ n3_
               have hHeld : w84.cell? ⟨gb216, 0, none⟩ = some (.int .i64 a2_0) ∧ w84.cell? ⟨gb216, 1, none⟩ = some (.int .i64 a2_1) ∧ w84.cell? ⟨gb216, 2, none⟩ = some (.int .u64 a2_2) ∧ w84.cell? ⟨gb216, 3, none⟩ = some (.int .i64 a2_3) ∧ w84.cell? ⟨gb216, 4, none⟩ = some (.int .i64 a2_4) ∧ w84.cell? ⟨gb216, 5, none⟩ = some (.int .i64 a2_5) := hS_
               obtain ⟨Ao86, co86, eo86⟩ := Kd.R_slice HO234.out
               (first | subst eo86 | (injection eo86 with f1_ f2_ f3_; have f4_ := f1_.symm; have f5_ := f3_.symm; clear f1_ f2_ f3_; subst f4_; subst f5_))
               refine norm_ (a' := ?_) ?_ ?_
               rotate_left
               ·
                simp only [putAll, Act.put, List.setIfInBounds_toArray, List.set_cons_zero, List.set_cons_succ]
                rfl
               refine one_ (i := 5) (N := some 70) #[true, true, true, true, true, true, false, false, false, false, false, false] rfl rfl (one_of HT_.out (by kernel_rfl)) (by decide) (fun K hK => ?_)
               refine Kd.R_append_rows_step k32 (w0 := w) w.heap.size (by rfl) (.tmp 67) (.tmp 69) 22 32 (.agg #[(.int .i64 0), (.int .i64 0), (.int .u64 0), (.int .i64 0), (.int .i64 0), (.int .i64 0)]) 48 rfl Try.underlying22 info32 rfl (by decide) (by omega) v230 y229 y232 _ _ _ (fun k_ => some k_ ≠ (.slice Ao86 y232.length co86 : Value).ownBlock ∧ k_ ≠ gb216) (fun _ => False) rfl rfl ?aO ?aR (fun _ _ h => h) (fun _ h => h.elim) ?aF ?aB ?aS ?aL ?_
               (case aR => repeat (first | exact (Kd.R_reads' HO234.out).2.2 | (with_reducible refine Kd.C_alloc ?_ _) | (with_reducible refine Kd.C_drewN ?_ _) | (with_reducible refine Kd.C_drew ?_)))
               (case aB => exact (by repeat (first | (with_reducible first | exact HB.out | apply below_alloc | apply pw_below_drewN | apply below_drew1 | refine below_set ?_ GE216.out) | exact HB.out)))
               (case aF => exact (fun k_ hk => ⟨Kd.fresh' (Kd.R_lt (by (with_reducible repeat (first | apply Kd.R_alloc | apply Kd.R_drewN | apply Kd.R_drew)); exact HO234.out)) k_ hk, Kd.freshB (g := gb216) (o := .cells #[.int .i64 a2_0, .int .i64 a2_1, .int .u64 a2_2, .int .i64 a2_3, .int .i64 a2_4, .int .i64 a2_5] 32 (0, 0)) (by (with_reducible repeat (first | refine blk_drewN ?_ _ | refine blk_drew ?_ | refine blk_alloc ?_ _)); exact BK216.out) k_ hk⟩))
               (case aO => exact (by (with_reducible repeat (first | apply Kd.R_alloc | apply Kd.R_drewN | apply Kd.R_drew)); exact HO231.out))
               (case aS => exact (below_size (by repeat (first | (with_reducible first | exact HB.out | apply below_alloc | apply pw_below_drewN | apply below_drew1 | refine below_set ?_ GE216.out) | exact HB.out))))
               (case aL => have := LMc27.out; omega)
               intro v236 w85 ho hb hg hat
               rw [← Ny235.out] at ho
               have n0_ := Aside0.mk (blk_grown (g := gb216) (o := .cells #[.int .i64 a2_0, .int .i64 a2_1, .int .u64 a2_2, .int .i64 a2_3, .int .i64 a2_4, .int .i64 a2_5] 32 (0, 0)) (by (with_reducible repeat (first | refine blk_drewN ?_ _ | refine blk_drew ?_ | refine blk_alloc ?_ _)); exact BK216.out) hg (Kd.R_away HO231.out (fun _ hk => hk.2)))
               have n1_ := Aside0.mk (Kd.R_after (ok := (fun k_ => k_ ≠ gb216)) (by (with_reducible repeat (first | apply Kd.R_alloc | apply Kd.R_drewN | apply Kd.R_drew)); exact Kd.R_mono HO234.out (fun _ hk => ⟨hk.2, hk.1⟩)) hg hat)
               have n2_ := Aside0.mk (hb)
               have n3_ := Aside0.mk (ho)
               clear BK216 HO234 HB HO231
               have BK216 := n0_
               have HO234 := n1_
               have HB := n2_
               have HO237 := n3_
               clear n0_ n1_ n2_ n3_ ho hb hg hat
               obtain ⟨Ao87, co87, eo87⟩ := Kd.R_slice HO237.out
               (first | subst eo87 | (injection eo87 with f1_ f2_ f3_; have f4_ := f1_.symm; have f5_ := f3_.symm; clear f1_ f2_ f3_; subst f4_; subst f5_))
               refine hK.out _ _ ⟨(blk_cell BK216.out 0).trans rfl, (blk_cell BK216.out 1).trans rfl, (blk_cell BK216.out 2).trans rfl, (blk_cell BK216.out 3).trans rfl, (blk_cell BK216.out 4).trans rfl, (blk_cell BK216.out 5).trans rfl⟩ (fun hHeld => ?_)
               clear hK K
               refine norm_ (a' := ?_) ?_ ?_
               rotate_left
               ·
                show Act.put _ (some 70) _ = _
                simp only [Act.put, List.setIfInBounds_toArray, List.set_cons_zero, List.set_cons_succ, i64_w, i32_w]
                rfl
               refine one_ (i := 6) (N := some 71) #[true, true, true, true, true, true, true, false, false, false, false, false] rfl rfl (one_of HT_.out (by kernel_rfl)) (by decide) (fun K hK => ?_)
               refine goes_ Try.func19 (by kernel_rfl) rfl #[.slice Ao87 y235.length co87] (by rfl) rfl rfl (by (try simp only [List.map_toArray, List.map_cons, List.map_nil]); first | done | rfl | (simp only [List.length_drop, List.length_take]; rfl)) ?_
               with_reducible refine (term_Check.calls kj15 _ _ y235 t238 t239 _ ?side1 ?side2 A28.out).mono ?_
               (case side1 => repeat (first | exact (Kd.R_reads' HO237.out).2.2 | (with_reducible refine Kd.C_alloc ?_ _) | (with_reducible refine Kd.C_drewN ?_ _) | (with_reducible refine Kd.C_drew ?_)))
               (case side2 => exact (Kd.R_reads' HO237.out).2.1)
               rintro e w88 ⟨rfl, hb⟩
               refine ⟨_, rfl, ?_⟩
               have n0_ := Aside0.mk (Kd.R_below (by (with_reducible repeat (first | apply Kd.R_alloc | apply Kd.R_drewN | apply Kd.R_drew)); exact HO234.out) hb)
               have n1_ := Aside0.mk (Kd.R_below (by (with_reducible repeat (first | apply Kd.R_alloc | apply Kd.R_drewN | apply Kd.R_drew)); exact HO237.out) hb)
               have n2_ := Aside0.mk (blk_below (g := gb216) (o := .cells #[.int .i64 a2_0, .int .i64 a2_1, .int .u64 a2_2, .int .i64 a2_3, .int .i64 a2_4, .int .i64 a2_5] 32 (0, 0)) (by (with_reducible repeat (first | refine blk_drewN ?_ _ | refine blk_drew ?_ | refine blk_alloc ?_ _)); exact BK216.out) hb)
               have n3_ := Aside0.mk (below_step (by repeat (first | (with_reducible first | exact HB.out | apply below_alloc | apply pw_below_drewN | apply below_drew1 | refine below_set ?_ GE216.out) | exact HB.out)) hb)
               clear HO234 HO237 BK216 HB
               have HO234 := n0_
               have HO237 := n1_
               have BK216 := n2_
               have HB := n3_
               clear n0_ n1_ n2_ n3_
               (try clear hb)
               (try clear hb2)
               (try clear hk)
               (try clear hi)
               refine hK.out _ _ ⟨(blk_cell BK216.out 0).trans rfl, (blk_cell BK216.out 1).trans rfl, (blk_cell BK216.out 2).trans rfl, (blk_cell BK216.out 3).trans rfl, (blk_cell BK216.out 4).trans rfl, (blk_cell BK216.out 5).trans rfl⟩ (fun hHeld => ?_)
               clear hK K
               refine norm_ (a' := ?_) ?_ ?_
               rotate_left
               ·
                show Act.put _ (some 71) _ = _
                simp only [Act.put, List.setIfInBounds_toArray, List.set_cons_zero, List.set_cons_succ, i64_w, i32_w]
                rfl
               refine pure_ (i := 7) (N := some 64) (v := ?_) (a' := ?_) #[true, true, true, true, true, true, true, true, false, false, false, false] rfl rfl (any_of HT_.out (by kernel_rfl)) (fun _ _ _ h => h) (Or.inl ⟨by rfl, ?_⟩) ?_ ?_
               rotate_left
               ·
                intro w'
                go_simp
                with_reducible rfl
               rotate_left
               ·
                simp only [Act.put, List.setIfInBounds_toArray, List.set_cons_zero, List.set_cons_succ, i64_w, i32_w]
                rfl
               refine pure_ (i := 8) (N := some 72) (v := ?_) (a' := ?_) #[true, true, true, true, true, true, true, true, true, false, false, false] rfl rfl (any_of HT_.out (by kernel_rfl)) (fun _ _ _ h => h) (Or.inl ⟨by rfl, ?_⟩) ?_ ?_
               rotate_left
               ·
                intro w'
                go_simp
                with_reducible rfl
               rotate_left
               ·
                simp only [Act.put, List.setIfInBounds_toArray, List.set_cons_zero, List.set_cons_succ, i64_w, i32_w]
                rfl
               refine pure_ (i := 9) (N := some 73) (v := ?_) (a' := ?_) #[true, true, true, true, true, true, true, true, true, true, false, false] rfl rfl (any_of HT_.out (by kernel_rfl)) (fun _ _ _ h => h) (Or.inl ⟨by rfl, ?_⟩) ?_ ?_
               rotate_left
               ·
                intro w'
                go_simp
                with_reducible rfl
               rotate_left
               ·
                simp only [Act.put, List.setIfInBounds_toArray, List.set_cons_zero, List.set_cons_succ, i64_w, i32_w]
                rfl
               refine pure_ (i := 10) (N := some 11) (v := ?_) (a' := ?_) #[true, true, true, true, true, true, true, true, true, true, true, false] rfl rfl (any_of HT_.out (by kernel_rfl)) (fun _ _ _ h => h) (Or.inl ⟨by rfl, ?_⟩) ?_ ?_
               rotate_left
               ·
                intro w'
                go_simp
                with_reducible rfl
               rotate_left
               ·
                simp only [Act.put, List.setIfInBounds_toArray, List.set_cons_zero, List.set_cons_succ, i64_w, i32_w]
                rfl
               refine pure_ (i := 11) (N := some 12) (v := ?_) (a' := ?_) #[true, true, true, true, true, true, true, true, true, true, true, true] rfl rfl (any_of HT_.out (by kernel_rfl)) (fun _ _ _ h => h) (Or.inl ⟨by rfl, ?_⟩) ?_ ?_
               rotate_left
               ·
                intro w'
                go_simp
                with_reducible rfl
               rotate_left
               ·
                simp only [Act.put, List.setIfInBounds_toArray, List.set_cons_zero, List.set_cons_succ, i64_w, i32_w]
                rfl
               refine done_ (done_of HT_.out (by kernel_rfl)) ?_
               try go_wp2
               go_ret
               exact ⟨by first | rfl | (simp [errW_none, errW_some] <;> rfl) | (simp [*, errW_none, errW_some] <;> rfl), by repeat (first | (with_reducible first | exact HB.out | apply below_alloc | apply pw_below_drewN | apply below_drew1 | refine below_set ?_ GE216.out) | exact HB.out)⟩
             ·
              rw [if_neg c65] at H
              have c65b0 : (t238 == t218) = false := beq_eq_false_iff_ne.mpr c65
              have c65b1 : (t238 != t218) = true := bne_iff_ne.mpr c65
              obtain rfl := Option.some.inj H
              try go_wp2
              have n0_ := Aside0.mk (blk_drew BK216.out)
              have n1_ := Aside0.mk (below_drew1 HB.out)
              clear BK216 HB
              have BK216 := n0_
              have HB := n1_
              clear n0_ n1_
              refine start_ (n := 12) (S := fun w' => w'.cell? ⟨gb216, 0, none⟩ = some (.int .i64 a2_0) ∧ w'.cell? ⟨gb216, 1, none⟩ = some (.int .i64 a2_1) ∧ w'.cell? ⟨gb216, 2, none⟩ = some (.int .u64 a2_2) ∧ w'.cell? ⟨gb216, 3, none⟩ = some (.int .i64 a2_3) ∧ w'.cell? ⟨gb216, 4, none⟩ = some (.int .i64 a2_4) ∧ w'.cell? ⟨gb216, 5, none⟩ = some (.int .i64 a2_5)) (ds := []) #[false, false, false, false, false, false, false, false, false, false, false, false] (by kernel_rfl) rfl rfl ⟨(blk_cell BK216.out 0).trans rfl, (blk_cell BK216.out 1).trans rfl, (blk_cell BK216.out 2).trans rfl, (blk_cell BK216.out 3).trans rfl, (blk_cell BK216.out 4).trans rfl, (blk_cell BK216.out 5).trans rfl⟩ (fun hHeld => ?_); refine with_tabW backreachlaw06_TermParts.tab9 backreachlaw06_TermParts.bits9 (fun HT_ HW_ => ?_)
              generalize wc.drew = w89 at BK216 HB hHeld ⊢
              refine pure_ (i := 1) (N := some 66) (v := ?_) (a' := ?_) #[false, true, false, false, false, false, false, false, false, false, false, false] rfl rfl (any_of HT_.out (by kernel_rfl)) (fun _ _ _ h => h) (Or.inl ⟨by rfl, ?_⟩) ?_ ?_
              rotate_left
              ·
               intro w'
               go_simp
               with_reducible rfl
              rotate_left
              ·
               simp only [Act.put, List.setIfInBounds_toArray, List.set_cons_zero, List.set_cons_succ, i64_w, i32_w]
               rfl
              refine take_ (i := 3) (N := some 68) (v := ?_) (a' := ?_) #[false, true, false, true, false, false, false, false, false, false, false, false] rfl rfl (take_ofW HT_.out HW_.out (by kernel_rfl)) (fun _ _ _ h => h) (Or.inl ⟨by rfl, ?_⟩) hHeld ?_ ?_
              rotate_left
              ·
               rintro w' ⟨s0, s1, s2, s3, s4, s5⟩
               go_simp
               with_reducible rfl
              rotate_left
              ·
               simp only [Act.put, List.setIfInBounds_toArray, List.set_cons_zero, List.set_cons_succ, i64_w, i32_w]
               rfl
              refine join_ (σ := Value × Value × Value) 7 #[true, true, true, true, true, false, false, false, false, false, false, false] (fun s_ => [(65, s_.1), (67, s_.2.1), (69, s_.2.2)]) (fun s_ w' => (w'.cell? ⟨gb216, 0, none⟩ = some (.int .i64 a2_0) ∧ w'.cell? ⟨gb216, 1, none⟩ = some (.int .i64 a2_1) ∧ w'.cell? ⟨gb216, 2, none⟩ = some (.int .u64 a2_2) ∧ w'.cell? ⟨gb216, 3, none⟩ = some (.int .i64 a2_3) ∧ w'.cell? ⟨gb216, 4, none⟩ = some (.int .i64 a2_4) ∧ w'.cell? ⟨gb216, 5, none⟩ = some (.int .i64 a2_5)) ∧ (Kd.R k32 32 w' w.heap.size (fun k_ => some k_ ≠ (s_.2.2 : Value).ownBlock ∧ k_ ≠ gb216) s_.2.1 y229) ∧ (Kd.R k32 32 w' w.heap.size (fun k_ => some k_ ≠ (s_.2.1 : Value).ownBlock ∧ k_ ≠ gb216) s_.2.2 y232) ∧ (w'.heap[gb216]? = some (.cells #[.int .i64 a2_0, .int .i64 a2_1, .int .u64 a2_2, .int .i64 a2_3, .int .i64 a2_4, .int .i64 a2_5] 32 (0, 0))) ∧ (Below w.heap.size w w')) ?_ ?_
              rotate_left
              ·
               intro hCont
               refine two_ (i := 0) (j := 4) (Ni := some 65) (Nj := some 69) #[true, true, false, true, false, false, false, false, false, false, false, false] #[false, true, false, true, true, false, false, false, false, false, false, false] rfl rfl rfl rfl (two_of HT_.out (by kernel_rfl)) (by decide) (by decide) (fun K hK => ?_) (fun K hK => ?_)
               ·
                skip
                refine Kd.R_lit_step k32 _ 32 ?hg (N := 65) ?hd (xs := ([] : List (S32))) (inner := []) (ok := fun _ => True) (okp := fun _ => True) ?hr ?hp (fun _ hk => hk) trivial (Below.refl _ _) (Nat.le_refl _) (by simp) ?_; (case hd => rfl); (case hg => rfl); (case hr => first | (go_simp; done) | (go_simp; rfl)); (case hp => exact (Reps.none _ _))
                intro v227 w90 ho91 hb hg_ hnew_
                clear hg_ hnew_
                (first | rw [← Ny226.out] at ho91 | (simp only [Int.reduceToNat] at ho91; rw [← Ny226.out] at ho91))
                have n0_ := Aside0.mk (Kd.R_lower (Kd.R_newB ho91 (g := gb216) (o := .cells #[.int .i64 a2_0, .int .i64 a2_1, .int .u64 a2_2, .int .i64 a2_3, .int .i64 a2_4, .int .i64 a2_5] 32 (0, 0)) (by (with_reducible repeat (first | refine blk_drewN ?_ _ | refine blk_drew ?_ | refine blk_alloc ?_ _)); exact BK216.out)) (below_size (by repeat (first | (with_reducible first | exact HB.out | apply below_alloc | apply pw_below_drewN | apply below_drew1 | refine below_set ?_ GE216.out) | exact HB.out))))
                have n1_ := Aside0.mk (blk_below (g := gb216) (o := .cells #[.int .i64 a2_0, .int .i64 a2_1, .int .u64 a2_2, .int .i64 a2_3, .int .i64 a2_4, .int .i64 a2_5] 32 (0, 0)) (by (with_reducible repeat (first | refine blk_drewN ?_ _ | refine blk_drew ?_ | refine blk_alloc ?_ _)); exact BK216.out) hb)
                have n2_ := Aside0.mk (below_step (by repeat (first | (with_reducible first | exact HB.out | apply below_alloc | apply pw_below_drewN | apply below_drew1 | refine below_set ?_ GE216.out) | exact HB.out)) hb)
                clear BK216 HB
                have HO228 := n0_
                have BK216 := n1_
                have HB := n2_
                clear n0_ n1_ n2_ hb ho91
                refine hK.out _ _ ⟨(blk_cell BK216.out 0).trans rfl, (blk_cell BK216.out 1).trans rfl, (blk_cell BK216.out 2).trans rfl, (blk_cell BK216.out 3).trans rfl, (blk_cell BK216.out 4).trans rfl, (blk_cell BK216.out 5).trans rfl⟩ (fun hHeld => ?_)
                clear hK K
                refine norm_ (a' := ?_) ?_ ?_
                rotate_left
                ·
                 show Act.put _ (some 65) _ = _
                 simp only [Act.put, List.setIfInBounds_toArray, List.set_cons_zero, List.set_cons_succ, i64_w, i32_w]
                 rfl
                refine two_ (i := 2) (j := 4) (Ni := some 67) (Nj := some 69) #[true, true, true, true, false, false, false, false, false, false, false, false] #[true, true, false, true, true, false, false, false, false, false, false, false] rfl rfl rfl rfl (two_of HT_.out (by kernel_rfl)) (by decide) (by decide) (fun K hK => ?_) (fun K hK => ?_)
                ·
                 skip
                 refine Kd.R_append_rows_step k32 (w0 := w) w.heap.size (by rfl) (.tmp 65) (.tmp 66) 22 32 (.agg #[(.int .i64 0), (.int .i64 0), (.int .u64 0), (.int .i64 0), (.int .i64 0), (.int .i64 0)]) 48 rfl Try.underlying22 info32 rfl (by decide) (by omega) v227 y226 l0 _ _ _ (fun k_ => k_ ≠ gb216) (fun _ => False) rfl rfl ?aO ?aR (fun _ _ h => h) (fun _ h => h.elim) ?aF ?aB ?aS ?aL ?_
                 (case aR => repeat (first | exact (Kd.C_below HR0.out HB.out) | (with_reducible refine Kd.C_alloc ?_ _) | (with_reducible refine Kd.C_drewN ?_ _) | (with_reducible refine Kd.C_drew ?_)))
                 (case aB => exact (by repeat (first | (with_reducible first | exact HB.out | apply below_alloc | apply pw_below_drewN | apply below_drew1 | refine below_set ?_ GE216.out) | exact HB.out)))
                 (case aF => exact (fun k_ hk => Kd.freshB (g := gb216) (o := .cells #[.int .i64 a2_0, .int .i64 a2_1, .int .u64 a2_2, .int .i64 a2_3, .int .i64 a2_4, .int .i64 a2_5] 32 (0, 0)) (by (with_reducible repeat (first | refine blk_drewN ?_ _ | refine blk_drew ?_ | refine blk_alloc ?_ _)); exact BK216.out) k_ hk))
                 (case aO => exact (by (with_reducible repeat (first | apply Kd.R_alloc | apply Kd.R_drewN | apply Kd.R_drew)); exact Kd.R_mono HO228.out (fun _ hk => hk.2)))
                 (case aS => exact (below_size (by repeat (first | (with_reducible first | exact HB.out | apply below_alloc | apply pw_below_drewN | apply below_drew1 | refine below_set ?_ GE216.out) | exact HB.out))))
                 (case aL => have := LMc26.out; omega)
                 intro v230 w92 ho hb hg hat
                 rw [← Ny229.out] at ho
                 have n0_ := Aside0.mk (blk_grown (g := gb216) (o := .cells #[.int .i64 a2_0, .int .i64 a2_1, .int .u64 a2_2, .int .i64 a2_3, .int .i64 a2_4, .int .i64 a2_5] 32 (0, 0)) (by (with_reducible repeat (first | refine blk_drewN ?_ _ | refine blk_drew ?_ | refine blk_alloc ?_ _)); exact BK216.out) hg (Kd.R_away HO228.out (fun _ hk => hk.2)))
                 have n1_ := Aside0.mk (hb)
                 have n2_ := Aside0.mk (ho)
                 clear BK216 HB HO228
                 have BK216 := n0_
                 have HB := n1_
                 have HO231 := n2_
                 clear n0_ n1_ n2_ ho hb hg hat
                 refine hK.out _ _ ⟨(blk_cell BK216.out 0).trans rfl, (blk_cell BK216.out 1).trans rfl, (blk_cell BK216.out 2).trans rfl, (blk_cell BK216.out 3).trans rfl, (blk_cell BK216.out 4).trans rfl, (blk_cell BK216.out 5).trans rfl⟩ (fun hHeld => ?_)
                 clear hK K
                 refine norm_ (a' := ?_) ?_ ?_
                 rotate_left
                 ·
                  show Act.put _ (some 67) _ = _
                  simp only [Act.put, List.setIfInBounds_toArray, List.set_cons_zero, List.set_cons_succ, i64_w, i32_w]
                  rfl
                 refine one_ (i := 4) (N := some 69) #[true, true, true, true, true, false, false, false, false, false, false, false] rfl rfl (one_of HT_.out (by kernel_rfl)) (by decide) (fun K hK => ?_)
                 refine Kd.R_lit_step k32 _ 32 ?hg (N := 69) ?hd (xs := ([(⟨a2_0, a2_1, a2_2, (⟨a2_3, a2_4, a2_5⟩ : S30)⟩ : S32)] : List (S32))) (inner := [.int .i64 a2_0, .int .i64 a2_1, .int .u64 a2_2, .int .i64 a2_3, .int .i64 a2_4, .int .i64 a2_5]) (ok := fun _ => True) (okp := fun _ => True) ?hr ?hp (fun _ hk => hk) trivial (Below.refl _ _) (Nat.le_refl _) (by simp) ?_; (case hd => rfl); (case hg => rfl); (case hr => first | (go_simp; done) | (go_simp; rfl)); (case hp => exact (Reps.c6 (show Kd.M k32 _ _ _ (⟨a2_0, a2_1, a2_2, (⟨a2_3, a2_4, a2_5⟩ : S30)⟩ : S32) [.int .i64 a2_0, .int .i64 a2_1, .int .u64 a2_2, .int .i64 a2_3, .int .i64 a2_4, .int .i64 a2_5] from (k32_mkM _ _ _ (⟨a2_0, a2_1, a2_2, (⟨a2_3, a2_4, a2_5⟩ : S30)⟩ : S32) )) (Reps.none _ _)))
                 intro v233 w93 ho94 hb hg_ hnew_
                 clear hg_ hnew_
                 (first | rw [← Ny232.out] at ho94 | (simp only [Int.reduceToNat] at ho94; rw [← Ny232.out] at ho94))
                 have n0_ := Aside0.mk (Kd.R_elder' (by (with_reducible repeat (first | apply Kd.R_alloc | apply Kd.R_drewN | apply Kd.R_drew)); exact HO231.out) (Kd.R_base ho94) hb)
                 have n1_ := Aside0.mk (Kd.R_lower (Kd.R_newB (Kd.R_new' ho94 (Kd.R_lt (by (with_reducible repeat (first | apply Kd.R_alloc | apply Kd.R_drewN | apply Kd.R_drew)); exact HO231.out))) (g := gb216) (o := .cells #[.int .i64 a2_0, .int .i64 a2_1, .int .u64 a2_2, .int .i64 a2_3, .int .i64 a2_4, .int .i64 a2_5] 32 (0, 0)) (by (with_reducible repeat (first | refine blk_drewN ?_ _ | refine blk_drew ?_ | refine blk_alloc ?_ _)); exact BK216.out)) (below_size (by repeat (first | (with_reducible first | exact HB.out | apply below_alloc | apply pw_below_drewN | apply below_drew1 | refine below_set ?_ GE216.out) | exact HB.out))))
                 have n2_ := Aside0.mk (blk_below (g := gb216) (o := .cells #[.int .i64 a2_0, .int .i64 a2_1, .int .u64 a2_2, .int .i64 a2_3, .int .i64 a2_4, .int .i64 a2_5] 32 (0, 0)) (by (with_reducible repeat (first | refine blk_drewN ?_ _ | refine blk_drew ?_ | refine blk_alloc ?_ _)); exact BK216.out) hb)
                 have n3_ := Aside0.mk (below_step (by repeat (first | (with_reducible first | exact HB.out | apply below_alloc | apply pw_below_drewN | apply below_drew1 | refine below_set ?_ GE216.out) | exact HB.out)) hb)
                 clear HO231 BK216 HB
                 have HO231 := n0_
                 have HO234 := n1_
                 have BK216 := n2_
                 have HB := n3_
                 clear n0_ n1_ n2_ n3_ hb ho94
                 refine hK.out _ _ ⟨(blk_cell BK216.out 0).trans rfl, (blk_cell BK216.out 1).trans rfl, (blk_cell BK216.out 2).trans rfl, (blk_cell BK216.out 3).trans rfl, (blk_cell BK216.out 4).trans rfl, (blk_cell BK216.out 5).trans rfl⟩ (fun hHeld => ?_)
                 clear hK K
                 refine norm_ (a' := ?_) ?_ ?_
                 rotate_left
                 ·
                  show Act.put _ (some 69) _ = _
                  simp only [Act.put, List.setIfInBounds_toArray, List.set_cons_zero, List.set_cons_succ, i64_w, i32_w]
                  rfl
                 exact norm_ (by simp only [putAll, Act.put, List.setIfInBounds_toArray, List.set_cons_zero, List.set_cons_succ]) (hCont (v227, v230, v233) _ ⟨hHeld, (by (with_reducible repeat (first | apply Kd.R_alloc | apply Kd.R_drewN | apply Kd.R_drew)); exact Kd.R_mono HO231.out (fun _ hk => ⟨hk.2, hk.1⟩)), (by (with_reducible repeat (first | apply Kd.R_alloc | apply Kd.R_drewN | apply Kd.R_drew)); exact Kd.R_mono HO234.out (fun _ hk => ⟨hk.1.2, hk.2⟩)), (by (with_reducible repeat (first | refine blk_drewN ?_ _ | refine blk_drew ?_ | refine blk_alloc ?_ _)); exact BK216.out), (by repeat (first | (with_reducible first | exact HB.out | apply below_alloc | apply pw_below_drewN | apply below_drew1 | refine below_set ?_ GE216.out) | exact HB.out))⟩)
                ·
                 skip
                 refine Kd.R_lit_step k32 _ 32 ?hg (N := 69) ?hd (xs := ([(⟨a2_0, a2_1, a2_2, (⟨a2_3, a2_4, a2_5⟩ : S30)⟩ : S32)] : List (S32))) (inner := [.int .i64 a2_0, .int .i64 a2_1, .int .u64 a2_2, .int .i64 a2_3, .int .i64 a2_4, .int .i64 a2_5]) (ok := fun _ => True) (okp := fun _ => True) ?hr ?hp (fun _ hk => hk) trivial (Below.refl _ _) (Nat.le_refl _) (by simp) ?_; (case hd => rfl); (case hg => rfl); (case hr => first | (go_simp; done) | (go_simp; rfl)); (case hp => exact (Reps.c6 (show Kd.M k32 _ _ _ (⟨a2_0, a2_1, a2_2, (⟨a2_3, a2_4, a2_5⟩ : S30)⟩ : S32) [.int .i64 a2_0, .int .i64 a2_1, .int .u64 a2_2, .int .i64 a2_3, .int .i64 a2_4, .int .i64 a2_5] from (k32_mkM _ _ _ (⟨a2_0, a2_1, a2_2, (⟨a2_3, a2_4, a2_5⟩ : S30)⟩ : S32) )) (Reps.none _ _)))
                 intro v233 w92 ho93 hb hg_ hnew_
                 clear hg_ hnew_
                 (first | rw [← Ny232.out] at ho93 | (simp only [Int.reduceToNat] at ho93; rw [← Ny232.out] at ho93))
                 have n0_ := Aside0.mk (Kd.R_elder' (by (with_reducible repeat (first | apply Kd.R_alloc | apply Kd.R_drewN | apply Kd.R_drew)); exact HO228.out) (Kd.R_base ho93) hb)
                 have n1_ := Aside0.mk (Kd.R_lower (Kd.R_newB (Kd.R_new' ho93 (Kd.R_lt (by (with_reducible repeat (first | apply Kd.R_alloc | apply Kd.R_drewN | apply Kd.R_drew)); exact HO228.out))) (g := gb216) (o := .cells #[.int .i64 a2_0, .int .i64 a2_1, .int .u64 a2_2, .int .i64 a2_3, .int .i64 a2_4, .int .i64 a2_5] 32 (0, 0)) (by (with_reducible repeat (first | refine blk_drewN ?_ _ | refine blk_drew ?_ | refine blk_alloc ?_ _)); exact BK216.out)) (below_size (by repeat (first | (with_reducible first | exact HB.out | apply below_alloc | apply pw_below_drewN | apply below_drew1 | refine below_set ?_ GE216.out) | exact HB.out))))
                 have n2_ := Aside0.mk (blk_below (g := gb216) (o := .cells #[.int .i64 a2_0, .int .i64 a2_1, .int .u64 a2_2, .int .i64 a2_3, .int .i64 a2_4, .int .i64 a2_5] 32 (0, 0)) (by (with_reducible repeat (first | refine blk_drewN ?_ _ | refine blk_drew ?_ | refine blk_alloc ?_ _)); exact BK216.out) hb)
                 have n3_ := Aside0.mk (below_step (by repeat (first | (with_reducible first | exact HB.out | apply below_alloc | apply pw_below_drewN | apply below_drew1 | refine below_set ?_ GE216.out) | exact HB.out)) hb)
                 clear HO228 BK216 HB
                 have HO228 := n0_
                 have HO234 := n1_
                 have BK216 := n2_
                 have HB := n3_
                 clear n0_ n1_ n2_ n3_ hb ho93
                 refine hK.out _ _ ⟨(blk_cell BK216.out 0).trans rfl, (blk_cell BK216.out 1).trans rfl, (blk_cell BK216.out 2).trans rfl, (blk_cell BK216.out 3).trans rfl, (blk_cell BK216.out 4).trans rfl, (blk_cell BK216.out 5).trans rfl⟩ (fun hHeld => ?_)
                 clear hK K
                 refine norm_ (a' := ?_) ?_ ?_
                 rotate_left
                 ·
                  show Act.put _ (some 69) _ = _
                  simp only [Act.put, List.setIfInBounds_toArray, List.set_cons_zero, List.set_cons_succ, i64_w, i32_w]
                  rfl
                 refine one_ (i := 2) (N := some 67) #[true, true, true, true, true, false, false, false, false, false, false, false] rfl rfl (one_of HT_.out (by kernel_rfl)) (by decide) (fun K hK => ?_)
                 refine Kd.R_append_rows_step k32 (w0 := w) w.heap.size (by rfl) (.tmp 65) (.tmp 66) 22 32 (.agg #[(.int .i64 0), (.int .i64 0), (.int .u64 0), (.int .i64 0), (.int .i64 0), (.int .i64 0)]) 48 rfl Try.underlying22 info32 rfl (by decide) (by omega) v227 y226 l0 _ _ _ (fun k_ => some k_ ≠ (v233 : Value).ownBlock ∧ k_ ≠ gb216) (fun _ => False) rfl rfl ?aO ?aR (fun _ _ h => h) (fun _ h => h.elim) ?aF ?aB ?aS ?aL ?_
                 (case aR => repeat (first | exact (Kd.C_below HR0.out HB.out) | (with_reducible refine Kd.C_alloc ?_ _) | (with_reducible refine Kd.C_drewN ?_ _) | (with_reducible refine Kd.C_drew ?_)))
                 (case aB => exact (by repeat (first | (with_reducible first | exact HB.out | apply below_alloc | apply pw_below_drewN | apply below_drew1 | refine below_set ?_ GE216.out) | exact HB.out)))
                 (case aF => exact (fun k_ hk => ⟨Kd.fresh' (Kd.R_lt (by (with_reducible repeat (first | apply Kd.R_alloc | apply Kd.R_drewN | apply Kd.R_drew)); exact HO234.out)) k_ hk, Kd.freshB (g := gb216) (o := .cells #[.int .i64 a2_0, .int .i64 a2_1, .int .u64 a2_2, .int .i64 a2_3, .int .i64 a2_4, .int .i64 a2_5] 32 (0, 0)) (by (with_reducible repeat (first | refine blk_drewN ?_ _ | refine blk_drew ?_ | refine blk_alloc ?_ _)); exact BK216.out) k_ hk⟩))
                 (case aO => exact (by (with_reducible repeat (first | apply Kd.R_alloc | apply Kd.R_drewN | apply Kd.R_drew)); exact Kd.R_mono HO228.out (fun _ hk => ⟨hk.2, hk.1.2⟩)))
                 (case aS => exact (below_size (by repeat (first | (with_reducible first | exact HB.out | apply below_alloc | apply pw_below_drewN | apply below_drew1 | refine below_set ?_ GE216.out) | exact HB.out))))
                 (case aL => have := LMc26.out; omega)
                 intro v230 w94 ho hb hg hat
                 rw [← Ny229.out] at ho
                 have n0_ := Aside0.mk (blk_grown (g := gb216) (o := .cells #[.int .i64 a2_0, .int .i64 a2_1, .int .u64 a2_2, .int .i64 a2_3, .int .i64 a2_4, .int .i64 a2_5] 32 (0, 0)) (by (with_reducible repeat (first | refine blk_drewN ?_ _ | refine blk_drew ?_ | refine blk_alloc ?_ _)); exact BK216.out) hg (Kd.R_away HO228.out (fun _ hk => hk.1.2)))
                 have n1_ := Aside0.mk (Kd.R_after (ok := (fun k_ => k_ ≠ gb216)) (by (with_reducible repeat (first | apply Kd.R_alloc | apply Kd.R_drewN | apply Kd.R_drew)); exact Kd.R_mono HO234.out (fun _ hk => ⟨hk.2, hk.1.2⟩)) hg hat)
                 have n2_ := Aside0.mk (hb)
                 have n3_ := Aside0.mk (ho)
                 clear BK216 HO234 HB HO228
                 have BK216 := n0_
                 have HO234 := n1_
                 have HB := n2_
                 have HO231 := n3_
                 clear n0_ n1_ n2_ n3_ ho hb hg hat
                 refine hK.out _ _ ⟨(blk_cell BK216.out 0).trans rfl, (blk_cell BK216.out 1).trans rfl, (blk_cell BK216.out 2).trans rfl, (blk_cell BK216.out 3).trans rfl, (blk_cell BK216.out 4).trans rfl, (blk_cell BK216.out 5).trans rfl⟩ (fun hHeld => ?_)
                 clear hK K
                 refine norm_ (a' := ?_) ?_ ?_
                 rotate_left
                 ·
                  show Act.put _ (some 67) _ = _
                  simp only [Act.put, List.setIfInBounds_toArray, List.set_cons_zero, List.set_cons_succ, i64_w, i32_w]
                  rfl
                 exact norm_ (by simp only [putAll, Act.put, List.setIfInBounds_toArray, List.set_cons_zero, List.set_cons_succ]) (hCont (v227, v230, v233) _ ⟨hHeld, (by (with_reducible repeat (first | apply Kd.R_alloc | apply Kd.R_drewN | apply Kd.R_drew)); exact HO231.out), (by (with_reducible repeat (first | apply Kd.R_alloc | apply Kd.R_drewN | apply Kd.R_drew)); exact Kd.R_mono HO234.out (fun _ hk => ⟨hk.2, hk.1⟩)), (by (with_reducible repeat (first | refine blk_drewN ?_ _ | refine blk_drew ?_ | refine blk_alloc ?_ _)); exact BK216.out), (by repeat (first | (with_reducible first | exact HB.out | apply below_alloc | apply pw_below_drewN | apply below_drew1 | refine below_set ?_ GE216.out) | exact HB.out))⟩)
               ·
                skip
                refine Kd.R_lit_step k32 _ 32 ?hg (N := 69) ?hd (xs := ([(⟨a2_0, a2_1, a2_2, (⟨a2_3, a2_4, a2_5⟩ : S30)⟩ : S32)] : List (S32))) (inner := [.int .i64 a2_0, .int .i64 a2_1, .int .u64 a2_2, .int .i64 a2_3, .int .i64 a2_4, .int .i64 a2_5]) (ok := fun _ => True) (okp := fun _ => True) ?hr ?hp (fun _ hk => hk) trivial (Below.refl _ _) (Nat.le_refl _) (by simp) ?_; (case hd => rfl); (case hg => rfl); (case hr => first | (go_simp; done) | (go_simp; rfl)); (case hp => exact (Reps.c6 (show Kd.M k32 _ _ _ (⟨a2_0, a2_1, a2_2, (⟨a2_3, a2_4, a2_5⟩ : S30)⟩ : S32) [.int .i64 a2_0, .int .i64 a2_1, .int .u64 a2_2, .int .i64 a2_3, .int .i64 a2_4, .int .i64 a2_5] from (k32_mkM _ _ _ (⟨a2_0, a2_1, a2_2, (⟨a2_3, a2_4, a2_5⟩ : S30)⟩ : S32) )) (Reps.none _ _)))
                intro v233 w90 ho91 hb hg_ hnew_
                clear hg_ hnew_
                (first | rw [← Ny232.out] at ho91 | (simp only [Int.reduceToNat] at ho91; rw [← Ny232.out] at ho91))
                have n0_ := Aside0.mk (Kd.R_lower (Kd.R_newB ho91 (g := gb216) (o := .cells #[.int .i64 a2_0, .int .i64 a2_1, .int .u64 a2_2, .int .i64 a2_3, .int .i64 a2_4, .int .i64 a2_5] 32 (0, 0)) (by (with_reducible repeat (first | refine blk_drewN ?_ _ | refine blk_drew ?_ | refine blk_alloc ?_ _)); exact BK216.out)) (below_size (by repeat (first | (with_reducible first | exact HB.out | apply below_alloc | apply pw_below_drewN | apply below_drew1 | refine below_set ?_ GE216.out) | exact HB.out))))
                have n1_ := Aside0.mk (blk_below (g := gb216) (o := .cells #[.int .i64 a2_0, .int .i64 a2_1, .int .u64 a2_2, .int .i64 a2_3, .int .i64 a2_4, .int .i64 a2_5] 32 (0, 0)) (by (with_reducible repeat (first | refine blk_drewN ?_ _ | refine blk_drew ?_ | refine blk_alloc ?_ _)); exact BK216.out) hb)
                have n2_ := Aside0.mk (below_step (by repeat (first | (with_reducible first | exact HB.out | apply below_alloc | apply pw_below_drewN | apply below_drew1 | refine below_set ?_ GE216.out) | exact HB.out)) hb)
                clear BK216 HB
                have HO234 := n0_
                have BK216 := n1_
                have HB := n2_
                clear n0_ n1_ n2_ hb ho91
                refine hK.out _ _ ⟨(blk_cell BK216.out 0).trans rfl, (blk_cell BK216.out 1).trans rfl, (blk_cell BK216.out 2).trans rfl, (blk_cell BK216.out 3).trans rfl, (blk_cell BK216.out 4).trans rfl, (blk_cell BK216.out 5).trans rfl⟩ (fun hHeld => ?_)
                clear hK K
                refine norm_ (a' := ?_) ?_ ?_
                rotate_left
                ·
                 show Act.put _ (some 69) _ = _
                 simp only [Act.put, List.setIfInBounds_toArray, List.set_cons_zero, List.set_cons_succ, i64_w, i32_w]
                 rfl
                refine one_ (i := 0) (N := some 65) #[true, true, false, true, true, false, false, false, false, false, false, false] rfl rfl (one_of HT_.out (by kernel_rfl)) (by decide) (fun K hK => ?_)
                refine Kd.R_lit_step k32 _ 32 ?hg (N := 65) ?hd (xs := ([] : List (S32))) (inner := []) (ok := fun _ => True) (okp := fun _ => True) ?hr ?hp (fun _ hk => hk) trivial (Below.refl _ _) (Nat.le_refl _) (by simp) ?_; (case hd => rfl); (case hg => rfl); (case hr => first | (go_simp; done) | (go_simp; rfl)); (case hp => exact (Reps.none _ _))
                intro v227 w92 ho93 hb hg_ hnew_
                clear hg_ hnew_
                (first | rw [← Ny226.out] at ho93 | (simp only [Int.reduceToNat] at ho93; rw [← Ny226.out] at ho93))
                have n0_ := Aside0.mk (Kd.R_elder' (by (with_reducible repeat (first | apply Kd.R_alloc | apply Kd.R_drewN | apply Kd.R_drew)); exact HO234.out) (Kd.R_base ho93) hb)
                have n1_ := Aside0.mk (Kd.R_lower (Kd.R_newB (Kd.R_new' ho93 (Kd.R_lt (by (with_reducible repeat (first | apply Kd.R_alloc | apply Kd.R_drewN | apply Kd.R_drew)); exact HO234.out))) (g := gb216) (o := .cells #[.int .i64 a2_0, .int .i64 a2_1, .int .u64 a2_2, .int .i64 a2_3, .int .i64 a2_4, .int .i64 a2_5] 32 (0, 0)) (by (with_reducible repeat (first | refine blk_drewN ?_ _ | refine blk_drew ?_ | refine blk_alloc ?_ _)); exact BK216.out)) (below_size (by repeat (first | (with_reducible first | exact HB.out | apply below_alloc | apply pw_below_drewN | apply below_drew1 | refine below_set ?_ GE216.out) | exact HB.out))))
                have n2_ := Aside0.mk (blk_below (g := gb216) (o := .cells #[.int .i64 a2_0, .int .i64 a2_1, .int .u64 a2_2, .int .i64 a2_3, .int .i64 a2_4, .int .i64 a2_5] 32 (0, 0)) (by (with_reducible repeat (first | refine blk_drewN ?_ _ | refine blk_drew ?_ | refine blk_alloc ?_ _)); exact BK216.out) hb)
                have n3_ := Aside0.mk (below_step (by repeat (first | (with_reducible first | exact HB.out | apply below_alloc | apply pw_below_drewN | apply below_drew1 | refine below_set ?_ GE216.out) | exact HB.out)) hb)
                clear HO234 BK216 HB
                have HO234 := n0_
                have HO228 := n1_
                have BK216 := n2_
                have HB := n3_
                clear n0_ n1_ n2_ n3_ hb ho93
                refine hK.out _ _ ⟨(blk_cell BK216.out 0).trans rfl, (blk_cell BK216.out 1).trans rfl, (blk_cell BK216.out 2).trans rfl, (blk_cell BK216.out 3).trans rfl, (blk_cell BK216.out 4).trans rfl, (blk_cell BK216.out 5).trans rfl⟩ (fun hHeld => ?_)
                clear hK K
                refine norm_ (a' := ?_) ?_ ?_
                rotate_left
                ·
                 show Act.put _ (some 65) _ = _
                 simp only [Act.put, List.setIfInBounds_toArray, List.set_cons_zero, List.set_cons_succ, i64_w, i32_w]
                 rfl
                refine one_ (i := 2) (N := some 67) #[true, true, true, true, true, false, false, false, false, false, false, false] rfl rfl (one_of HT_.out (by kernel_rfl)) (by decide) (fun K hK => ?_)
                refine Kd.R_append_rows_step k32 (w0 := w) w.heap.size (by rfl) (.tmp 65) (.tmp 66) 22 32 (.agg #[(.int .i64 0), (.int .i64 0), (.int .u64 0), (.int .i64 0), (.int .i64 0), (.int .i64 0)]) 48 rfl Try.underlying22 info32 rfl (by decide) (by omega) v227 y226 l0 _ _ _ (fun k_ => some k_ ≠ (v233 : Value).ownBlock ∧ k_ ≠ gb216) (fun _ => False) rfl rfl ?aO ?aR (fun _ _ h => h) (fun _ h => h.elim) ?aF ?aB ?aS ?aL ?_
                (case aR => repeat (first | exact (Kd.C_below HR0.out HB.out) | (with_reducible refine Kd.C_alloc ?_ _) | (with_reducible refine Kd.C_drewN ?_ _) | (with_reducible refine Kd.C_drew ?_)))
                (case aB => exact (by repeat (first | (with_reducible first | exact HB.out | apply below_alloc | apply pw_below_drewN | apply below_drew1 | refine below_set ?_ GE216.out) | exact HB.out)))
                (case aF => exact (fun k_ hk => ⟨Kd.fresh' (Kd.R_lt (by (with_reducible repeat (first | apply Kd.R_alloc | apply Kd.R_drewN | apply Kd.R_drew)); exact HO234.out)) k_ hk, Kd.freshB (g := gb216) (o := .cells #[.int .i64 a2_0, .int .i64 a2_1, .int .u64 a2_2, .int .i64 a2_3, .int .i64 a2_4, .int .i64 a2_5] 32 (0, 0)) (by (with_reducible repeat (first | refine blk_drewN ?_ _ | refine blk_drew ?_ | refine blk_alloc ?_ _)); exact BK216.out) k_ hk⟩))
                (case aO => exact (by (with_reducible repeat (first | apply Kd.R_alloc | apply Kd.R_drewN | apply Kd.R_drew)); exact Kd.R_mono HO228.out (fun _ hk => ⟨hk.1.2, hk.2⟩)))
                (case aS => exact (below_size (by repeat (first | (with_reducible first | exact HB.out | apply below_alloc | apply pw_below_drewN | apply below_drew1 | refine below_set ?_ GE216.out) | exact HB.out))))
                (case aL => have := LMc26.out; omega)
                intro v230 w94 ho hb hg hat
                rw [← Ny229.out] at ho
                have n0_ := Aside0.mk (blk_grown (g := gb216) (o := .cells #[.int .i64 a2_0, .int .i64 a2_1, .int .u64 a2_2, .int .i64 a2_3, .int .i64 a2_4, .int .i64 a2_5] 32 (0, 0)) (by (with_reducible repeat (first | refine blk_drewN ?_ _ | refine blk_drew ?_ | refine blk_alloc ?_ _)); exact BK216.out) hg (Kd.R_away HO228.out (fun _ hk => hk.2)))
                have n1_ := Aside0.mk (Kd.R_after (ok := (fun k_ => k_ ≠ gb216)) (by (with_reducible repeat (first | apply Kd.R_alloc | apply Kd.R_drewN | apply Kd.R_drew)); exact Kd.R_mono HO234.out (fun _ hk => ⟨hk.1.2, hk.2⟩)) hg hat)
                have n2_ := Aside0.mk (hb)
                have n3_ := Aside0.mk (ho)
                clear BK216 HO234 HB HO228
                have BK216 := n0_
                have HO234 := n1_
                have HB := n2_
                have HO231 := n3_
                clear n0_ n1_ n2_ n3_ ho hb hg hat
                refine hK.out _ _ ⟨(blk_cell BK216.out 0).trans rfl, (blk_cell BK216.out 1).trans rfl, (blk_cell BK216.out 2).trans rfl, (blk_cell BK216.out 3).trans rfl, (blk_cell BK216.out 4).trans rfl, (blk_cell BK216.out 5).trans rfl⟩ (fun hHeld => ?_)
                clear hK K
                refine norm_ (a' := ?_) ?_ ?_
                rotate_left
                ·
                 show Act.put _ (some 67) _ = _
                 simp only [Act.put, List.setIfInBounds_toArray, List.set_cons_zero, List.set_cons_succ, i64_w, i32_w]
                 rfl
                exact norm_ (by simp only [putAll, Act.put, List.setIfInBounds_toArray, List.set_cons_zero, List.set_cons_succ]) (hCont (v227, v230, v233) _ ⟨hHeld, (by (with_reducible repeat (first | apply Kd.R_alloc | apply Kd.R_drewN | apply Kd.R_drew)); exact HO231.out), (by (with_reducible repeat (first | apply Kd.R_alloc | apply Kd.R_drewN | apply Kd.R_drew)); exact Kd.R_mono HO234.out (fun _ hk => ⟨hk.2, hk.1⟩)), (by (with_reducible repeat (first | refine blk_drewN ?_ _ | refine blk_drew ?_ | refine blk_alloc ?_ _)); exact BK216.out), (by repeat (first | (with_reducible first | exact HB.out | apply below_alloc | apply pw_below_drewN | apply below_drew1 | refine below_set ?_ GE216.out) | exact HB.out))⟩)
              rintro ⟨v227, v230, v233⟩ w95 ⟨hS_, h0_, h1_, h2_, h3_⟩
              have n0_ : Aside0 (Kd.R k32 32 w95 w.heap.size (fun k_ => some k_ ≠ (v233 : Value).ownBlock ∧ k_ ≠ gb216) v230 y229) := ⟨h0_⟩
              have n1_ : Aside0 (Kd.R k32 32 w95 w.heap.size (fun k_ => some k_ ≠ (v230 : Value).ownBlock ∧ k_ ≠ gb216) v233 y232) := ⟨h1_⟩
              have n2_ : Aside0 (w95.heap[gb216]? = some (.cells #[.int .i64 a2_0, .int .i64 a2_1, .int .u64 a2_2, .int .i64 a2_3, .int .i64 a2_4, .int .i64 a2_5] 32 (0, 0))) := ⟨h2_⟩
              have n3_ : Aside0 (Below w.heap.size w w95) := ⟨h3_⟩
              clear BK216 HB h0_ h1_ h2_ h3_
              have HO231 := n0_
              have HO234 := n1_
              have BK216 := n2_
              have HB := n3_
              clear n0_ n1_ n2_ n3_
              have hHeld : w95.cell? ⟨gb216, 0, none⟩ = some (.int .i64 a2_0) ∧ w95.cell? ⟨gb216, 1, none⟩ = some (.int .i64 a2_1) ∧ w95.cell? ⟨gb216, 2, none⟩ = some (.int .u64 a2_2) ∧ w95.cell? ⟨gb216, 3, none⟩ = some (.int .i64 a2_3) ∧ w95.cell? ⟨gb216, 4, none⟩ = some (.int .i64 a2_4) ∧ w95.cell? ⟨gb216, 5, none⟩ = some (.int .i64 a2_5) := hS_
              obtain ⟨Ao97, co97, eo97⟩ := Kd.R_slice HO234.out
              (first | subst eo97 | (injection eo97 with f1_ f2_ f3_; have f4_ := f1_.symm; have f5_ := f3_.symm; clear f1_ f2_ f3_; subst f4_; subst f5_))
              refine norm_ (a' := ?_) ?_ ?_
              rotate_left
              ·
               simp only [putAll, Act.put, List.setIfInBounds_toArray, List.set_cons_zero, List.set_cons_succ]
               rfl
              refine one_ (i := 5) (N := some 70) #[true, true, true, true, true, true, false, false, false, false, false, false] rfl rfl (one_of HT_.out (by kernel_rfl)) (by decide) (fun K hK => ?_)
              refine Kd.R_append_rows_step k32 (w0 := w) w.heap.size (by rfl) (.tmp 67) (.tmp 69) 22 32 (.agg #[(.int .i64 0), (.int .i64 0), (.int .u64 0), (.int .i64 0), (.int .i64 0), (.int .i64 0)]) 48 rfl Try.underlying22 info32 rfl (by decide) (by omega) v230 y229 y232 _ _ _ (fun k_ => some k_ ≠ (.slice Ao97 y232.length co97 : Value).ownBlock ∧ k_ ≠ gb216) (fun _ => False) rfl rfl ?aO ?aR (fun _ _ h => h) (fun _ h => h.elim) ?aF ?aB ?aS ?aL ?_
              (case aR => repeat (first | exact (Kd.R_reads' HO234.out).2.2 | (with_reducible refine Kd.C_alloc ?_ _) | (with_reducible refine Kd.C_drewN ?_ _) | (with_reducible refine Kd.C_drew ?_)))
              (case aB => exact (by repeat (first | (with_reducible first | exact HB.out | apply below_alloc | apply pw_below_drewN | apply below_drew1 | refine below_set ?_ GE216.out) | exact HB.out)))
              (case aF => exact (fun k_ hk => ⟨Kd.fresh' (Kd.R_lt (by (with_reducible repeat (first | apply Kd.R_alloc | apply Kd.R_drewN | apply Kd.R_drew)); exact HO234.out)) k_ hk, Kd.freshB (g := gb216) (o := .cells #[.int .i64 a2_0, .int .i64 a2_1, .int .u64 a2_2, .int .i64 a2_3, .int .i64 a2_4, .int .i64 a2_5] 32 (0, 0)) (by (with_reducible repeat (first | refine blk_drewN ?_ _ | refine blk_drew ?_ | refine blk_alloc ?_ _)); exact BK216.out) k_ hk⟩))
              (case aO => exact (by (with_reducible repeat (first | apply Kd.R_alloc | apply Kd.R_drewN | apply Kd.R_drew)); exact HO231.out))
              (case aS => exact (below_size (by repeat (first | (with_reducible first | exact HB.out | apply below_alloc | apply pw_below_drewN | apply below_drew1 | refine below_set ?_ GE216.out) | exact HB.out))))
              (case aL => have := LMc27.out; omega)
              intro v236 w96 ho hb hg hat
              rw [← Ny235.out] at ho
              have n0_ := Aside0.mk (blk_grown (g := gb216) (o := .cells #[.int .i64 a2_0, .int .i64 a2_1, .int .u64 a2_2, .int .i64 a2_3, .int .i64 a2_4, .int .i64 a2_5] 32 (0, 0)) (by (with_reducible repeat (first | refine blk_drewN ?_ _ | refine blk_drew ?_ | refine blk_alloc ?_ _)); exact BK216.out) hg (Kd.R_away HO231.out (fun _ hk => hk.2)))
              have n1_ := Aside0.mk (Kd.R_after (ok := (fun k_ => k_ ≠ gb216)) (by (with_reducible repeat (first | apply Kd.R_alloc | apply Kd.R_drewN | apply Kd.R_drew)); exact Kd.R_mono HO234.out (fun _ hk => ⟨hk.2, hk.1⟩)) hg hat)
              have n2_ := Aside0.mk (hb)
              have n3_ := Aside0.mk (ho)
              clear BK216 HO234 HB HO231
              have BK216 := n0_
              have HO234 := n1_
              have HB := n2_
              have HO237 := n3_
              clear n0_ n1_ n2_ n3_ ho hb hg hat
              obtain ⟨Ao98, co98, eo98⟩ := Kd.R_slice HO237.out
              (first | subst eo98 | (injection eo98 with f1_ f2_ f3_; have f4_ := f1_.symm; have f5_ := f3_.symm; clear f1_ f2_ f3_; subst f4_; subst f5_))
              refine hK.out _ _ ⟨(blk_cell BK216.out 0).trans rfl, (blk_cell BK216.out 1).trans rfl, (blk_cell BK216.out 2).trans rfl, (blk_cell BK216.out 3).trans rfl, (blk_cell BK216.out 4).trans rfl, (blk_cell BK216.out 5).trans rfl⟩ (fun hHeld => ?_)
              clear hK K
              refine norm_ (a' := ?_) ?_ ?_
              rotate_left
              ·
               show Act.put _ (some 70) _ = _
               simp only [Act.put, List.setIfInBounds_toArray, List.set_cons_zero, List.set_cons_succ, i64_w, i32_w]
               rfl
              refine one_ (i := 6) (N := some 71) #[true, true, true, true, true, true, true, false, false, false, false, false] rfl rfl (one_of HT_.out (by kernel_rfl)) (by decide) (fun K hK => ?_)
              refine goes_ Try.func19 (by kernel_rfl) rfl #[.slice Ao98 y235.length co98] (by rfl) rfl rfl (by (try simp only [List.map_toArray, List.map_cons, List.map_nil]); first | done | rfl | (simp only [List.length_drop, List.length_take]; rfl)) ?_
              with_reducible refine (term_Check.calls kj15 _ _ y235 t238 t239 _ ?side1 ?side2 A28.out).mono ?_
              (case side1 => repeat (first | exact (Kd.R_reads' HO237.out).2.2 | (with_reducible refine Kd.C_alloc ?_ _) | (with_reducible refine Kd.C_drewN ?_ _) | (with_reducible refine Kd.C_drew ?_)))
              (case side2 => exact (Kd.R_reads' HO237.out).2.1)
              rintro e w99 ⟨rfl, hb⟩
              refine ⟨_, rfl, ?_⟩
              have n0_ := Aside0.mk (Kd.R_below (by (with_reducible repeat (first | apply Kd.R_alloc | apply Kd.R_drewN | apply Kd.R_drew)); exact HO234.out) hb)
              have n1_ := Aside0.mk (Kd.R_below (by (with_reducible repeat (first | apply Kd.R_alloc | apply Kd.R_drewN | apply Kd.R_drew)); exact HO237.out) hb)
              have n2_ := Aside0.mk (blk_below (g := gb216) (o := .cells #[.int .i64 a2_0, .int .i64 a2_1, .int .u64 a2_2, .int .i64 a2_3, .int .i64 a2_4, .int .i64 a2_5] 32 (0, 0)) (by (with_reducible repeat (first | refine blk_drewN ?_ _ | refine blk_drew ?_ | refine blk_alloc ?_ _)); exact BK216.out) hb)
              have n3_ := Aside0.mk (below_step (by repeat (first | (with_reducible first | exact HB.out | apply below_alloc | apply pw_below_drewN | apply below_drew1 | refine below_set ?_ GE216.out) | exact HB.out)) hb)
              clear HO234 HO237 BK216 HB
              have HO234 := n0_
              have HO237 := n1_
              have BK216 := n2_
              have HB := n3_
              clear n0_ n1_ n2_ n3_
              (try clear hb)
              (try clear hb2)
              (try clear hk)
              (try clear hi)
              refine hK.out _ _ ⟨(blk_cell BK216.out 0).trans rfl, (blk_cell BK216.out 1).trans rfl, (blk_cell BK216.out 2).trans rfl, (blk_cell BK216.out 3).trans rfl, (blk_cell BK216.out 4).trans rfl, (blk_cell BK216.out 5).trans rfl⟩ (fun hHeld => ?_)
              clear hK K
              refine norm_ (a' := ?_) ?_ ?_
              rotate_left
              ·
               show Act.put _ (some 71) _ = _
               simp only [Act.put, List.setIfInBounds_toArray, List.set_cons_zero, List.set_cons_succ, i64_w, i32_w]
               rfl
              refine pure_ (i := 7) (N := some 64) (v := ?_) (a' := ?_) #[true, true, true, true, true, true, true, true, false, false, false, false] rfl rfl (any_of HT_.out (by kernel_rfl)) (fun _ _ _ h => h) (Or.inl ⟨by rfl, ?_⟩) ?_ ?_
              rotate_left
              ·
               intro w'
               go_simp
               with_reducible rfl
              rotate_left
              ·
               simp only [Act.put, List.setIfInBounds_toArray, List.set_cons_zero, List.set_cons_succ, i64_w, i32_w]
               rfl
              refine pure_ (i := 8) (N := some 72) (v := ?_) (a' := ?_) #[true, true, true, true, true, true, true, true, true, false, false, false] rfl rfl (any_of HT_.out (by kernel_rfl)) (fun _ _ _ h => h) (Or.inl ⟨by rfl, ?_⟩) ?_ ?_
              rotate_left
              ·
               intro w'
               go_simp
               with_reducible rfl
              rotate_left
              ·
               simp only [Act.put, List.setIfInBounds_toArray, List.set_cons_zero, List.set_cons_succ, i64_w, i32_w]
               rfl
              refine pure_ (i := 9) (N := some 73) (v := ?_) (a' := ?_) #[true, true, true, true, true, true, true, true, true, true, false, false] rfl rfl (any_of HT_.out (by kernel_rfl)) (fun _ _ _ h => h) (Or.inl ⟨by rfl, ?_⟩) ?_ ?_
              rotate_left
              ·
               intro w'
               go_simp
               with_reducible rfl
              rotate_left
              ·
               simp only [Act.put, List.setIfInBounds_toArray, List.set_cons_zero, List.set_cons_succ, i64_w, i32_w]
               rfl
              refine pure_ (i := 10) (N := some 11) (v := ?_) (a' := ?_) #[true, true, true, true, true, true, true, true, true, true, true, false] rfl rfl (any_of HT_.out (by kernel_rfl)) (fun _ _ _ h => h) (Or.inl ⟨by rfl, ?_⟩) ?_ ?_
              rotate_left
              ·
               intro w'
               go_simp
               with_reducible rfl
              rotate_left
              ·
               simp only [Act.put, List.setIfInBounds_toArray, List.set_cons_zero, List.set_cons_succ, i64_w, i32_w]
               rfl
              refine pure_ (i := 11) (N := some 12) (v := ?_) (a' := ?_) #[true, true, true, true, true, true, true, true, true, true, true, true] rfl rfl (any_of HT_.out (by kernel_rfl)) (fun _ _ _ h => h) (Or.inl ⟨by rfl, ?_⟩) ?_ ?_
              rotate_left
              ·
               intro w'
               go_simp
               with_reducible rfl
              rotate_left
              ·
               simp only [Act.put, List.setIfInBounds_toArray, List.set_cons_zero, List.set_cons_succ, i64_w, i32_w]
               rfl
              refine done_ (done_of HT_.out (by kernel_rfl)) ?_
              try go_wp2
              go_ret
              exact ⟨by first | rfl | (simp [errW_none, errW_some] <;> rfl) | (simp [*, errW_none, errW_some] <;> rfl), by repeat (first | (with_reducible first | exact HB.out | apply below_alloc | apply pw_below_drewN | apply below_drew1 | refine below_set ?_ GE216.out) | exact HB.out)⟩
           ·
            rw [if_neg c27] at H
            exact absurd H (by simp)
          ·
           rw [if_neg c26] at H
           exact absurd H (by simp)
      ·
       rw [if_neg c14] at H
       exact absurd H (by simp)
     ·
      rw [if_neg c13] at H
      exact absurd H (by simp)
 ·
  replace c5 := Bool.eq_false_iff.mpr c5
  subst c5
  have H1 : (some false) = some r := by rw [if_neg (show ¬ (false = true) by decide)] at H; exact H
  clear H
  have H := H1
  clear H1
  obtain rfl := Option.some.inj H
  go_enter Try.func5, Try.ntmps5
  go_wp2_with (first | ((with_reducible refine gate_dst (N := 5) rfl ?_); (try (refine gate_guard (by rfl) ?_; dsimp only)); refine box_event ?hg (N := 5) ?hd (cs := #[.int .i64 a2_0, .int .i64 a2_1, .int .u64 a2_2, .int .i64 a2_3, .int .i64 a2_4, .int .i64 a2_5]) (t := 32) ?hr ?_; (case hd => rfl); (case hg => rfl); (case hr => first | (go_simp; done) | (go_simp; rfl)); intro gb216 hg w100 hbox hb; have n0_ := Aside0.mk (below_step (by repeat (first | (with_reducible first | exact HB.out | apply below_alloc | apply pw_below_drewN | apply below_drew1) | exact HB.out)) hb); have n1_ := Aside0.mk (hbox); have n2_ := Aside0.mk ((by rw [hg]; exact (below_size (by repeat (first | (with_reducible first | exact HB.out | apply below_alloc | apply pw_below_drewN | apply below_drew1) | exact HB.out))) : w.heap.size ≤ gb216)); have n3_ := Aside0.mk ((by rw [hg]; exact (below_size (by repeat (first | (with_reducible first | exact HB.out | apply below_alloc | apply pw_below_drewN | apply below_drew1) | exact HB.out))) : w.heap.size ≤ gb216)); clear HB; have HB := n0_; have BK216 := n1_; have GW216 := n2_; have GE216 := n3_; clear n0_ n1_ n2_ n3_; clear hb hbox hg) | ((with_reducible refine gate_callee (f := 9) rfl ?_); refine goesL_ (some 13) rfl rfl Try.func9 (by kernel_rfl) rfl #[] rfl (by (try simp only [List.map_toArray, List.map_cons, List.map_nil]); first | done | rfl | (simp only [List.length_drop, List.length_take]; rfl)) ?_; (with_reducible refine (backreachlaw06_awake.calls  false _ A4.out).mono ?_); rintro e w101 ⟨rfl, hb⟩; refine ⟨_, rfl, ?_⟩; have n0_ := Aside0.mk (blk_below (g := gb216) (o := .cells #[.int .i64 a2_0, .int .i64 a2_1, .int .u64 a2_2, .int .i64 a2_3, .int .i64 a2_4, .int .i64 a2_5] 32 (0, 0)) (by (with_reducible repeat (first | refine blk_drewN ?_ _ | refine blk_drew ?_ | refine blk_alloc ?_ _)); exact BK216.out) hb); have n1_ := Aside0.mk (below_step (by repeat (first | (with_reducible first | exact HB.out | apply below_alloc | apply pw_below_drewN | apply below_drew1 | refine below_set ?_ GE216.out) | exact HB.out)) hb); clear BK216; clear HB; have BK216 := n0_; have HB := n1_; clear n0_ n1_; (try clear hb); (try clear hb2); (try clear hk); (try clear hi)))
  go_ret
  exact ⟨by first | rfl | (simp [errW_none, errW_some] <;> rfl) | (simp [*, errW_none, errW_some] <;> rfl), by repeat (first | (with_reducible first | exact HB.out | apply below_alloc | apply pw_below_drewN | apply below_drew1 | refine below_set ?_ GE216.out) | exact HB.out)⟩

end Go.Proofs.Ytkindfbbklkjdaa.P
