/- What Go functions compute, and their walks: written by a program of this session (a turned copy of the kit's print) out of the translation. -/
import Derived.Test.YtkindfbbklkjdaaPx0
import Derived.Test.YtkindfbbklkjdaaPx13
import Derived.Test.YtkindfbbklkjdaaPx14
import Derived.Test.YtkindfbbklkjdaaPx15
namespace Go.Proofs.Ytkindfbbklkjdaa.P
open Go.RowKit Go.Proofs.YtkindfbbklkjdaaW.PrintWords Go.Proofs.YtkindfbbklkjdaaW.PrintLast Go.Proofs.YtkindfbbklkjdaaW.PrintMore
attribute [local go_sem] max2_int min2_int max_two min_two max_three min_three max_four min_four   -- for this text's walks alone
set_option linter.unusedVariables false
set_option linter.unusedSimpArgs false

/-! ### backreachref06_Right: function 28 -/
mutual
def backreachref06_Right.j0 : Nat → List (S32) → Bool → Int → Int → Int → Int → Int → Int → Option (Int)
  | 0, _, _, _, _, _, _, _, _ => none
  | k + 1, x1, x14, x133000, x133001, x133002, x133003, x133004, x133005 => if x14 = true then (some 4) else (backreachref06_Right.l0 k x1 0 x133000 x133001 x133002 x133003 x133004 x133005 0 0 0)
def backreachref06_Right.l0 : Nat → List (S32) → Int → Int → Int → Int → Int → Int → Int → Int → Int → Int → Option (Int)
  | 0, _, _, _, _, _, _, _, _, _, _, _ => none
  | k + 1, x1, x6, x133000, x133001, x133002, x133003, x133004, x133005, x134000, x134001, x134002 => if x6 < 3 then ((backreachref06_Kids.f k x133000).bind fun t134 => (if x6 ≥ t134 then (if x6 = 0 then (if x133003 = 0 then (backreachref06_Right.l0 k x1 (wrap64 (x6 + 1)) x133000 x133001 x133002 x133003 x133004 x133005 x134000 x134001 x134002) else (some 9)) else (if x6 = 1 then (if x133004 = 0 then (backreachref06_Right.l0 k x1 (wrap64 (x6 + 1)) x133000 x133001 x133002 x133003 x133004 x133005 x134000 x134001 x134002) else (some 9)) else (if x6 = 2 then (if x133005 = 0 then (backreachref06_Right.l0 k x1 (wrap64 (x6 + 1)) x133000 x133001 x133002 x133003 x133004 x133005 x134000 x134001 x134002) else (some 9)) else (none)))) else (if x6 = 0 then (if x133003 < 0 then (backreachref06_Right.j2 k x1 x6 true x133000 x133001 x133002 x133003 x133004 x133005 x134000 x134001 x134002) else (backreachref06_Right.j2 k x1 x6 (decide (x133003 ≥ (x1.length : Int))) x133000 x133001 x133002 x133003 x133004 x133005 x134000 x134001 x134002)) else (if x6 = 1 then (if x133004 < 0 then (backreachref06_Right.j2 k x1 x6 true x133000 x133001 x133002 x133003 x133004 x133005 x134000 x134001 x134002) else (backreachref06_Right.j2 k x1 x6 (decide (x133004 ≥ (x1.length : Int))) x133000 x133001 x133002 x133003 x133004 x133005 x134000 x134001 x134002)) else (if x6 = 2 then (if x133005 < 0 then (backreachref06_Right.j2 k x1 x6 true x133000 x133001 x133002 x133003 x133004 x133005 x134000 x134001 x134002) else (backreachref06_Right.j2 k x1 x6 (decide (x133005 ≥ (x1.length : Int))) x133000 x133001 x133002 x133003 x133004 x133005 x134000 x134001 x134002)) else (none)))))) else ((backreachref06_width.f k x133000 x133001 x133002 x133003 x133004 x133005 x134000 x134001 x134002).bind fun t138 => (if t138 = x133001 then (backreachref06_Right.j3 k (decide (x133001 < 0)) x133000 x133001 x133002 x133003 x133004 x133005) else (backreachref06_Right.j3 k true x133000 x133001 x133002 x133003 x133004 x133005)))
def backreachref06_Right.j2 : Nat → List (S32) → Int → Bool → Int → Int → Int → Int → Int → Int → Int → Int → Int → Option (Int)
  | 0, _, _, _, _, _, _, _, _, _, _, _, _ => none
  | k + 1, x1, x6, x43, x133000, x133001, x133002, x133003, x133004, x133005, x134000, x134001, x134002 => if x43 = true then (some 9) else (if x6 = 0 then (if 0 ≤ x133003 then (if x133003 < (x1.length : Int) then (backreachref06_Right.l0 k x1 (wrap64 (x6 + 1)) x133000 x133001 x133002 x133003 x133004 x133005 ((rd_T32 x1 x133003).f1) x134001 x134002) else (none)) else (none)) else (if x6 = 1 then (if 0 ≤ x133004 then (if x133004 < (x1.length : Int) then (backreachref06_Right.l0 k x1 (wrap64 (x6 + 1)) x133000 x133001 x133002 x133003 x133004 x133005 x134000 ((rd_T32 x1 x133004).f1) x134002) else (none)) else (none)) else (if x6 = 2 then (if 0 ≤ x133005 then (if x133005 < (x1.length : Int) then (backreachref06_Right.l0 k x1 (wrap64 (x6 + 1)) x133000 x133001 x133002 x133003 x133004 x133005 x134000 x134001 ((rd_T32 x1 x133005).f1)) else (none)) else (none)) else (none))))
def backreachref06_Right.j3 : Nat → Bool → Int → Int → Int → Int → Int → Int → Option (Int)
  | 0, _, _, _, _, _, _, _ => none
  | k + 1, x69, x133000, x133001, x133002, x133003, x133004, x133005 => if x69 = true then (some 8) else ((backreachref06_most.f x133000 x133001 x133002 x133003 x133004 x133005).bind fun t139 => (if x133002 > t139 then (some 3) else (some 0)))
end
def backreachref06_Right.f (k : Nat) (a0_0 : Int) (a0_1 : Int) (a0_2 : Int) (a0_3 : Int) (a0_4 : Int) (a0_5 : Int) (l1 : List (S32)) : Option (Int) := if a0_0 < 0 then (backreachref06_Right.j0 k l1 true a0_0 a0_1 a0_2 a0_3 a0_4 a0_5) else (backreachref06_Right.j0 k l1 (decide (a0_0 > 24)) a0_0 a0_1 a0_2 a0_3 a0_4 a0_5)
theorem backreachref06_Right.mono_l : ∀ k, (∀ y0 y1 y2 y3 y4 y5 y6 y7, LeO (backreachref06_Right.j0 k y0 y1 y2 y3 y4 y5 y6 y7) (backreachref06_Right.j0 (k + 1) y0 y1 y2 y3 y4 y5 y6 y7)) ∧ (∀ y0 y1 y2 y3 y4 y5 y6 y7 y8 y9 y10, LeO (backreachref06_Right.l0 k y0 y1 y2 y3 y4 y5 y6 y7 y8 y9 y10) (backreachref06_Right.l0 (k + 1) y0 y1 y2 y3 y4 y5 y6 y7 y8 y9 y10)) ∧ (∀ y0 y1 y2 y3 y4 y5 y6 y7 y8 y9 y10 y11, LeO (backreachref06_Right.j2 k y0 y1 y2 y3 y4 y5 y6 y7 y8 y9 y10 y11) (backreachref06_Right.j2 (k + 1) y0 y1 y2 y3 y4 y5 y6 y7 y8 y9 y10 y11)) ∧ (∀ y0 y1 y2 y3 y4 y5 y6, LeO (backreachref06_Right.j3 k y0 y1 y2 y3 y4 y5 y6) (backreachref06_Right.j3 (k + 1) y0 y1 y2 y3 y4 y5 y6))
  | 0 => ⟨fun _ _ _ _ _ _ _ _ r h => by simp [backreachref06_Right.j0] at h, fun _ _ _ _ _ _ _ _ _ _ _ r h => by simp [backreachref06_Right.l0] at h, fun _ _ _ _ _ _ _ _ _ _ _ _ r h => by simp [backreachref06_Right.j2] at h, fun _ _ _ _ _ _ _ r h => by simp [backreachref06_Right.j3] at h⟩
  | k + 1 => by
    obtain ⟨ih0, ih1, ih2, ih3⟩ := backreachref06_Right.mono_l k
    refine ⟨?_, ?_, ?_, ?_⟩
    · intro y0 y1 y2 y3 y4 y5 y6 y7
      unfold backreachref06_Right.j0
      repeat' first
      | (with_reducible exact ih0 _ _ _ _ _ _ _ _)
      | (with_reducible exact ih1 _ _ _ _ _ _ _ _ _ _ _)
      | (with_reducible exact ih2 _ _ _ _ _ _ _ _ _ _ _ _)
      | (with_reducible exact ih3 _ _ _ _ _ _ _)
      | (with_reducible exact backreachref06_Kids.mono _ _)
      | (with_reducible exact backreachref06_width.mono _ _ _ _ _ _ _ _ _ _)
      | (with_reducible exact LeO.refl _)
      | (with_reducible exact LeO.none _)
      | (with_reducible refine LeO.ite ?_ ?_)
      | (with_reducible refine LeO.bind ?_ (fun _ => ?_))
      | exact ih0 _ _ _ _ _ _ _ _
      | exact ih1 _ _ _ _ _ _ _ _ _ _ _
      | exact ih2 _ _ _ _ _ _ _ _ _ _ _ _
      | exact ih3 _ _ _ _ _ _ _
      | exact backreachref06_Kids.mono _ _
      | exact backreachref06_width.mono _ _ _ _ _ _ _ _ _ _
      | exact LeO.none _
      | refine LeO.ite ?_ ?_
      | refine LeO.bind ?_ (fun _ => ?_)
    · intro y0 y1 y2 y3 y4 y5 y6 y7 y8 y9 y10
      unfold backreachref06_Right.l0
      repeat' first
      | (with_reducible exact ih0 _ _ _ _ _ _ _ _)
      | (with_reducible exact ih1 _ _ _ _ _ _ _ _ _ _ _)
      | (with_reducible exact ih2 _ _ _ _ _ _ _ _ _ _ _ _)
      | (with_reducible exact ih3 _ _ _ _ _ _ _)
      | (with_reducible exact backreachref06_Kids.mono _ _)
      | (with_reducible exact backreachref06_width.mono _ _ _ _ _ _ _ _ _ _)
      | (with_reducible exact LeO.refl _)
      | (with_reducible exact LeO.none _)
      | (with_reducible refine LeO.ite ?_ ?_)
      | (with_reducible refine LeO.bind ?_ (fun _ => ?_))
      | exact ih0 _ _ _ _ _ _ _ _
      | exact ih1 _ _ _ _ _ _ _ _ _ _ _
      | exact ih2 _ _ _ _ _ _ _ _ _ _ _ _
      | exact ih3 _ _ _ _ _ _ _
      | exact backreachref06_Kids.mono _ _
      | exact backreachref06_width.mono _ _ _ _ _ _ _ _ _ _
      | exact LeO.none _
      | refine LeO.ite ?_ ?_
      | refine LeO.bind ?_ (fun _ => ?_)
    · intro y0 y1 y2 y3 y4 y5 y6 y7 y8 y9 y10 y11
      unfold backreachref06_Right.j2
      repeat' first
      | (with_reducible exact ih0 _ _ _ _ _ _ _ _)
      | (with_reducible exact ih1 _ _ _ _ _ _ _ _ _ _ _)
      | (with_reducible exact ih2 _ _ _ _ _ _ _ _ _ _ _ _)
      | (with_reducible exact ih3 _ _ _ _ _ _ _)
      | (with_reducible exact backreachref06_Kids.mono _ _)
      | (with_reducible exact backreachref06_width.mono _ _ _ _ _ _ _ _ _ _)
      | (with_reducible exact LeO.refl _)
      | (with_reducible exact LeO.none _)
      | (with_reducible refine LeO.ite ?_ ?_)
      | (with_reducible refine LeO.bind ?_ (fun _ => ?_))
      | exact ih0 _ _ _ _ _ _ _ _
      | exact ih1 _ _ _ _ _ _ _ _ _ _ _
      | exact ih2 _ _ _ _ _ _ _ _ _ _ _ _
      | exact ih3 _ _ _ _ _ _ _
      | exact backreachref06_Kids.mono _ _
      | exact backreachref06_width.mono _ _ _ _ _ _ _ _ _ _
      | exact LeO.none _
      | refine LeO.ite ?_ ?_
      | refine LeO.bind ?_ (fun _ => ?_)
    · intro y0 y1 y2 y3 y4 y5 y6
      unfold backreachref06_Right.j3
      repeat' first
      | (with_reducible exact ih0 _ _ _ _ _ _ _ _)
      | (with_reducible exact ih1 _ _ _ _ _ _ _ _ _ _ _)
      | (with_reducible exact ih2 _ _ _ _ _ _ _ _ _ _ _ _)
      | (with_reducible exact ih3 _ _ _ _ _ _ _)
      | (with_reducible exact backreachref06_Kids.mono _ _)
      | (with_reducible exact backreachref06_width.mono _ _ _ _ _ _ _ _ _ _)
      | (with_reducible exact LeO.refl _)
      | (with_reducible exact LeO.none _)
      | (with_reducible refine LeO.ite ?_ ?_)
      | (with_reducible refine LeO.bind ?_ (fun _ => ?_))
      | exact ih0 _ _ _ _ _ _ _ _
      | exact ih1 _ _ _ _ _ _ _ _ _ _ _
      | exact ih2 _ _ _ _ _ _ _ _ _ _ _ _
      | exact ih3 _ _ _ _ _ _ _
      | exact backreachref06_Kids.mono _ _
      | exact backreachref06_width.mono _ _ _ _ _ _ _ _ _ _
      | exact LeO.none _
      | refine LeO.ite ?_ ?_
      | refine LeO.bind ?_ (fun _ => ?_)
theorem backreachref06_Right.mono : ∀ a0 a1 a2 a3 a4 a5 a6 k, LeO (backreachref06_Right.f k a0 a1 a2 a3 a4 a5 a6) (backreachref06_Right.f (k + 1) a0 a1 a2 a3 a4 a5 a6) := by
  intro a0 a1 a2 a3 a4 a5 a6 k
  obtain ⟨ih0, ih1, ih2, ih3⟩ := backreachref06_Right.mono_l k
  unfold backreachref06_Right.f
  repeat' first
      | (with_reducible exact ih0 _ _ _ _ _ _ _ _)
      | (with_reducible exact ih1 _ _ _ _ _ _ _ _ _ _ _)
      | (with_reducible exact ih2 _ _ _ _ _ _ _ _ _ _ _ _)
      | (with_reducible exact ih3 _ _ _ _ _ _ _)
      | (with_reducible exact backreachref06_Kids.mono _ _)
      | (with_reducible exact backreachref06_width.mono _ _ _ _ _ _ _ _ _ _)
      | (with_reducible exact LeO.refl _)
      | (with_reducible exact LeO.none _)
      | (with_reducible refine LeO.ite ?_ ?_)
      | (with_reducible refine LeO.bind ?_ (fun _ => ?_))
      | exact ih0 _ _ _ _ _ _ _ _
      | exact ih1 _ _ _ _ _ _ _ _ _ _ _
      | exact ih2 _ _ _ _ _ _ _ _ _ _ _ _
      | exact ih3 _ _ _ _ _ _ _
      | exact backreachref06_Kids.mono _ _
      | exact backreachref06_width.mono _ _ _ _ _ _ _ _ _ _
      | exact LeO.none _
      | refine LeO.ite ?_ ?_
      | refine LeO.bind ?_ (fun _ => ?_)
def backreachref06_Right.T13 : Bool × List (List Nat × List Nat) := (true, [([], []), ([], []), ([1], [1]), ([], []), ([3], [3]), ([], []), ([5], [5]), ([0, 2, 4, 6], [0, 2, 4, 6]), ([], []), ([8], [8]), ([7, 9], [7, 9]), ([10, 7], [10]), ([11], [11]), ([12, 11], [11, 12]), ([13, 11], [11, 13]), ([11, 14], [11, 14])])
def backreachref06_Right.B13 : List Nat := [0, 0, 2, 0, 8, 0, 32, 127, 0, 256, 1023, 2047, 4095, 8191, 16383, 32767]
theorem backreachref06_Right.tab13 : rtab .any (opsOf Try.f28 13) = backreachref06_Right.T13 := by kernel_rfl
theorem backreachref06_Right.bits13 : waitsOk backreachref06_Right.T13.2 backreachref06_Right.B13 = true := by kernel_rfl
set_option maxHeartbeats 8000000 in
set_option maxRecDepth 100000 in
theorem backreachref06_Right.calls (k : Nat) (a0_0 : Int) (a0_1 : Int) (a0_2 : Int) (a0_3 : Int) (a0_4 : Int) (a0_5 : Int) (A1 : Option Addr) (c1 : Nat) (l1 : List (S32)) (r : Int) (w : World) (hr1 : Kd.C k32 w A1 l1.length l1) (hc1 : l1.length ≤ c1) (h : backreachref06_Right.f k a0_0 a0_1 a0_2 a0_3 a0_4 a0_5 l1 = some r) :
    Calls Try.prog 28 #[.agg #[.int .i64 a0_0, .int .i64 a0_1, .int .u64 a0_2, .int .i64 a0_3, .int .i64 a0_4, .int .i64 a0_5], .slice A1 l1.length c1] w fun e w' => e = .returned (.int .i64 r) ∧ Below w.heap.size w w' := by
  have hu32 := Try.underlying32
  have hu30 := Try.underlying30
  have HR1 := Aside0.mk hr1
  have HC1 := Aside0.mk hc1
  clear hr1 hc1
  have HB := Aside0.mk (Below.refl w.heap.size w)
  have H : (if a0_0 < 0 then (backreachref06_Right.j0 k l1 true a0_0 a0_1 a0_2 a0_3 a0_4 a0_5) else (backreachref06_Right.j0 k l1 (decide (a0_0 > 24)) a0_0 a0_1 a0_2 a0_3 a0_4 a0_5)) = some r := h
  clear h
  have HC3 := Aside0.mk H
  clear H
  go_enter Try.func28, Try.ntmps28
  go_upto_region 1 with (first | ((with_reducible refine gate_dst (N := 2) rfl ?_); (try (refine gate_guard (by rfl) ?_; dsimp only)); refine box_event ?hg (N := 2) ?hd (cs := #[.int .i64 a0_0, .int .i64 a0_1, .int .u64 a0_2, .int .i64 a0_3, .int .i64 a0_4, .int .i64 a0_5]) (t := 32) ?hr ?_; (case hd => rfl); (case hg => rfl); (case hr => first | (go_simp; done) | (go_simp; rfl)); intro gb132 hg w4 hbox hb; have n0_ := Aside0.mk (below_step (by repeat (first | (with_reducible first | exact HB.out | apply below_alloc | apply pw_below_drewN | apply below_drew1) | exact HB.out)) hb); have n1_ := Aside0.mk (hbox); have n2_ := Aside0.mk ((by rw [hg]; exact (below_size (by repeat (first | (with_reducible first | exact HB.out | apply below_alloc | apply pw_below_drewN | apply below_drew1) | exact HB.out))) : w.heap.size ≤ gb132)); have n3_ := Aside0.mk ((by rw [hg]; exact (below_size (by repeat (first | (with_reducible first | exact HB.out | apply below_alloc | apply pw_below_drewN | apply below_drew1) | exact HB.out))) : w.heap.size ≤ gb132)); clear HB; have HB := n0_; have BK132 := n1_; have GW132 := n2_; have GE132 := n3_; clear n0_ n1_ n2_ n3_; clear hb hbox hg))
  (try simp only [Act.put, List.setIfInBounds_toArray, List.set_cons_zero, List.set_cons_succ])
  go_cut [14] (fun v14 wc => ∃ (kq : Nat) (x14_2 : Bool), v14 = .bool x14_2 ∧ Aside0 (backreachref06_Right.j0 kq l1 x14_2 a0_0 a0_1 a0_2 a0_3 a0_4 a0_5 = some r) ∧ Aside0 (kq ≤ k) ∧ Aside0 (wc.heap[gb132]? = some (.cells #[.int .i64 a0_0, .int .i64 a0_1, .int .u64 a0_2, .int .i64 a0_3, .int .i64 a0_4, .int .i64 a0_5] 32 (0, 0))) ∧ Aside0 (Below w.heap.size w wc))
  case first =>
    have H := HC3.out
    clear HC3
    by_cases c5 : a0_0 < 0
    · rw [if_pos c5] at H
      have c5b0 : decide (a0_0 < 0) = true := decide_eq_true c5
      clear c5
      (first | rw [c5b0] | (simp only [i64_w, i32_w]; rw [c5b0]) | skip)
      have H' := Aside0.mk H
      clear H
      have hcz6_0 : w4.cell? ⟨gb132, 0, none⟩ = some (.int .i64 a0_0) := (blk_cell BK132.out 0).trans rfl
      have hcz6_1 : w4.cell? ⟨gb132, 1, none⟩ = some (.int .i64 a0_1) := (blk_cell BK132.out 1).trans rfl
      have hcz6_2 : w4.cell? ⟨gb132, 2, none⟩ = some (.int .u64 a0_2) := (blk_cell BK132.out 2).trans rfl
      have hcz6_3 : w4.cell? ⟨gb132, 3, none⟩ = some (.int .i64 a0_3) := (blk_cell BK132.out 3).trans rfl
      have hcz6_4 : w4.cell? ⟨gb132, 4, none⟩ = some (.int .i64 a0_4) := (blk_cell BK132.out 4).trans rfl
      have hcz6_5 : w4.cell? ⟨gb132, 5, none⟩ = some (.int .i64 a0_5) := (blk_cell BK132.out 5).trans rfl
      have hfz6_0 := blk_frozen BK132.out 0
      have hfz6_1 := blk_frozen BK132.out 1
      have hfz6_2 := blk_frozen BK132.out 2
      have hfz6_3 := blk_frozen BK132.out 3
      have hfz6_4 := blk_frozen BK132.out 4
      have hfz6_5 := blk_frozen BK132.out 5
      go_wp2
      go_meet
      case rel => exact ⟨_, (true), (by first | rfl | (simp; done) | (simp [*]; done)), H', ⟨by first | omega | exact Nat.le_refl _⟩, ⟨by (with_reducible repeat (first | refine blk_drewN ?_ _ | refine blk_drew ?_ | refine blk_alloc ?_ _)); exact BK132.out⟩, ⟨by repeat (first | (with_reducible first | exact HB.out | apply below_alloc | apply pw_below_drewN | apply below_drew1 | refine below_set ?_ GE132.out) | exact HB.out)⟩⟩
    · rw [if_neg c5] at H
      have c5b0 : decide (a0_0 < 0) = false := decide_eq_false c5
      clear c5
      (first | rw [c5b0] | (simp only [i64_w, i32_w]; rw [c5b0]) | skip)
      have H' := Aside0.mk H
      clear H
      have hcz7_0 : w4.cell? ⟨gb132, 0, none⟩ = some (.int .i64 a0_0) := (blk_cell BK132.out 0).trans rfl
      have hcz7_1 : w4.cell? ⟨gb132, 1, none⟩ = some (.int .i64 a0_1) := (blk_cell BK132.out 1).trans rfl
      have hcz7_2 : w4.cell? ⟨gb132, 2, none⟩ = some (.int .u64 a0_2) := (blk_cell BK132.out 2).trans rfl
      have hcz7_3 : w4.cell? ⟨gb132, 3, none⟩ = some (.int .i64 a0_3) := (blk_cell BK132.out 3).trans rfl
      have hcz7_4 : w4.cell? ⟨gb132, 4, none⟩ = some (.int .i64 a0_4) := (blk_cell BK132.out 4).trans rfl
      have hcz7_5 : w4.cell? ⟨gb132, 5, none⟩ = some (.int .i64 a0_5) := (blk_cell BK132.out 5).trans rfl
      have hfz7_0 := blk_frozen BK132.out 0
      have hfz7_1 := blk_frozen BK132.out 1
      have hfz7_2 := blk_frozen BK132.out 2
      have hfz7_3 := blk_frozen BK132.out 3
      have hfz7_4 := blk_frozen BK132.out 4
      have hfz7_5 := blk_frozen BK132.out 5
      go_wp2
      go_meet
      case rel => exact ⟨_, (decide (a0_0 > 24)), (by first | rfl | (simp; done) | (simp [*]; done)), H', ⟨by first | omega | exact Nat.le_refl _⟩, ⟨by (with_reducible repeat (first | refine blk_drewN ?_ _ | refine blk_drew ?_ | refine blk_alloc ?_ _)); exact BK132.out⟩, ⟨by repeat (first | (with_reducible first | exact HB.out | apply below_alloc | apply pw_below_drewN | apply below_drew1 | refine below_set ?_ GE132.out) | exact HB.out)⟩⟩
  case rest =>
    clear HC3
    try clear c1
    try clear c2
    try clear p2
    try clear c5
    try clear c5b0
    try clear hcz6_0
    try clear hcz6_1
    try clear hcz6_2
    try clear hcz6_3
    try clear hcz6_4
    try clear hcz6_5
    try clear hcz7_0
    try clear hcz7_1
    try clear hcz7_2
    try clear hcz7_3
    try clear hcz7_4
    try clear hcz7_5
    try clear hfz6_0
    try clear hfz6_1
    try clear hfz6_2
    try clear hfz6_3
    try clear hfz6_4
    try clear hfz6_5
    try clear hfz7_0
    try clear hfz7_1
    try clear hfz7_2
    try clear hfz7_3
    try clear hfz7_4
    try clear hfz7_5
    obtain ⟨kq, x14_2, rfl, HA, HJ2, BK132, HB⟩ := hcut
    cases kq with
    | zero => exact absurd HA.out (by simp [backreachref06_Right.j0])
    | succ kj2 =>
      have H := HA.out
      clear HA
      simp only [backreachref06_Right.j0] at H
      by_cases c8 : x14_2 = true
      · subst c8
        have H1 : (some 4) = some r := by rw [if_pos rfl] at H; exact H
        clear H
        have H := H1
        clear H1
        obtain rfl := Option.some.inj H
        go_wp2
        go_ret
        exact ⟨by first | rfl | (simp [errW_none, errW_some] <;> rfl) | (simp [*, errW_none, errW_some] <;> rfl), by repeat (first | (with_reducible first | exact HB.out | apply below_alloc | apply pw_below_drewN | apply below_drew1 | refine below_set ?_ GE132.out) | exact HB.out)⟩
      · replace c8 := Bool.eq_false_iff.mpr c8
        subst c8
        have H1 : (backreachref06_Right.l0 kj2 l1 0 a0_0 a0_1 a0_2 a0_3 a0_4 a0_5 0 0 0) = some r := by rw [if_neg (show ¬ (false = true) by decide)] at H; exact H
        clear H
        have H := H1
        clear H1
        have H' := Aside0.mk H
        clear H
        go_wp2_with (first | ((with_reducible refine gate_dst (N := 5) rfl ?_); (try (refine gate_guard (by rfl) ?_; dsimp only)); refine box_event ?hg (N := 5) ?hd (cs := #[.int .i64 0, .int .i64 0, .int .i64 0]) (t := 30) ?hr ?_; (case hd => rfl); (case hg => rfl); (case hr => first | (go_simp; done) | (go_simp; rfl)); intro gb133 hg w9 hbox hb; have n0_ := Aside0.mk (blk_below (g := gb132) (o := .cells #[.int .i64 a0_0, .int .i64 a0_1, .int .u64 a0_2, .int .i64 a0_3, .int .i64 a0_4, .int .i64 a0_5] 32 (0, 0)) (by (with_reducible repeat (first | refine blk_drewN ?_ _ | refine blk_drew ?_ | refine blk_alloc ?_ _)); exact BK132.out) hb); have n1_ := Aside0.mk (below_step (by repeat (first | (with_reducible first | exact HB.out | apply below_alloc | apply pw_below_drewN | apply below_drew1 | refine below_set ?_ GE132.out) | exact HB.out)) hb); have n2_ := Aside0.mk (hbox); have n3_ := Aside0.mk ((by rw [hg]; exact (below_size (by repeat (first | (with_reducible first | exact HB.out | apply below_alloc | apply pw_below_drewN | apply below_drew1 | refine below_set ?_ GE132.out) | exact HB.out))) : w.heap.size ≤ gb133)); have n4_ := Aside0.mk ((by rw [hg]; exact (below_size (by repeat (first | (with_reducible first | exact HB.out | apply below_alloc | apply pw_below_drewN | apply below_drew1 | refine below_set ?_ GE132.out) | exact HB.out))) : w.heap.size ≤ gb133)); have n5_ := Aside0.mk ((by rw [hg]; exact Nat.ne_of_lt (blk_lt (g := gb132) (o := .cells #[.int .i64 a0_0, .int .i64 a0_1, .int .u64 a0_2, .int .i64 a0_3, .int .i64 a0_4, .int .i64 a0_5] 32 (0, 0)) (by (with_reducible repeat (first | refine blk_drewN ?_ _ | refine blk_drew ?_ | refine blk_alloc ?_ _)); exact BK132.out)) : gb132 ≠ gb133)); have n6_ := Aside0.mk ((by rw [hg]; exact Nat.ne_of_gt (blk_lt (g := gb132) (o := .cells #[.int .i64 a0_0, .int .i64 a0_1, .int .u64 a0_2, .int .i64 a0_3, .int .i64 a0_4, .int .i64 a0_5] 32 (0, 0)) (by (with_reducible repeat (first | refine blk_drewN ?_ _ | refine blk_drew ?_ | refine blk_alloc ?_ _)); exact BK132.out)) : gb133 ≠ gb132)); clear BK132; clear HB; have BK132 := n0_; have HB := n1_; have BK133 := n2_; have GW133 := n3_; have GE133 := n4_; have NB132_133 := n5_; have NB133_132 := n6_; clear n0_ n1_ n2_ n3_ n4_ n5_ n6_; clear hb hbox hg; have hnb10 := NB133_132.out; have hnc10 := NB132_133.out; have hcz11_0 : w9.cell? ⟨gb133, 0, none⟩ = some (.int .i64 0) := (blk_cell BK133.out 0).trans rfl; have hcz11_1 : w9.cell? ⟨gb133, 1, none⟩ = some (.int .i64 0) := (blk_cell BK133.out 1).trans rfl; have hcz11_2 : w9.cell? ⟨gb133, 2, none⟩ = some (.int .i64 0) := (blk_cell BK133.out 2).trans rfl; have hfz11_0 := blk_frozen BK133.out 0; have hfz11_1 := blk_frozen BK133.out 1; have hfz11_2 := blk_frozen BK133.out 2))
        go_loopg [6] kj2 (fun kq v6 w' => ∃ (x6_2 : Int) (x134000_2 : Int) (x134001_2 : Int) (x134002_2 : Int), v6 = .int .i64 x6_2 ∧ Aside0 (backreachref06_Right.l0 kq l1 x6_2 a0_0 a0_1 a0_2 a0_3 a0_4 a0_5 x134000_2 x134001_2 x134002_2 = some r) ∧ Aside0 (kq ≤ kj2) ∧ Aside0 (w'.heap[gb132]? = some (.cells #[.int .i64 a0_0, .int .i64 a0_1, .int .u64 a0_2, .int .i64 a0_3, .int .i64 a0_4, .int .i64 a0_5] 32 (0, 0))) ∧ Aside0 (w'.heap[gb133]? = some (.cells #[.int .i64 x134000_2, .int .i64 x134001_2, .int .i64 x134002_2] 30 (0, 0))) ∧ Aside0 (Below w.heap.size w w'))
        case atStart => exact ⟨(0), (0), (0), (0), (by first | rfl | (simp; done) | (simp [*]; done)), H', ⟨Nat.le_refl _⟩, ⟨by (with_reducible repeat (first | refine blk_drewN ?_ _ | refine blk_drew ?_ | refine blk_alloc ?_ _)); refine blk_far ?_ NB132_133.out _; (with_reducible repeat (first | refine blk_drewN ?_ _ | refine blk_drew ?_ | refine blk_alloc ?_ _)); refine blk_far ?_ NB132_133.out _; (with_reducible repeat (first | refine blk_drewN ?_ _ | refine blk_drew ?_ | refine blk_alloc ?_ _)); refine blk_far ?_ NB132_133.out _; (with_reducible repeat (first | refine blk_drewN ?_ _ | refine blk_drew ?_ | refine blk_alloc ?_ _)); exact BK132.out⟩, ⟨by (with_reducible repeat (first | refine blk_drewN ?_ _ | refine blk_drew ?_ | refine blk_alloc ?_ _)); refine blk_put (cs := #[.int .i64 0, .int .i64 0, .int .i64 0]) ?_ 2 _ rfl; (with_reducible repeat (first | refine blk_drewN ?_ _ | refine blk_drew ?_ | refine blk_alloc ?_ _)); refine blk_put (cs := #[.int .i64 0, .int .i64 0, .int .i64 0]) ?_ 1 _ rfl; (with_reducible repeat (first | refine blk_drewN ?_ _ | refine blk_drew ?_ | refine blk_alloc ?_ _)); refine blk_put (cs := #[.int .i64 0, .int .i64 0, .int .i64 0]) ?_ 0 _ rfl; (with_reducible repeat (first | refine blk_drewN ?_ _ | refine blk_drew ?_ | refine blk_alloc ?_ _)); exact BK133.out⟩, ⟨by repeat (first | (with_reducible first | exact HB.out | apply below_alloc | apply pw_below_drewN | apply below_drew1 | refine below_set ?_ GE132.out | refine below_set ?_ GE133.out) | exact HB.out)⟩⟩
        case round =>
          clear H'
          try clear c1
          try clear c2
          try clear p2
          try clear c5
          try clear c5b0
          try clear c8
          try clear c10
          try clear hcz11_0
          try clear hcz11_1
          try clear hcz11_2
          try clear hcz6_0
          try clear hcz6_1
          try clear hcz6_2
          try clear hcz6_3
          try clear hcz6_4
          try clear hcz6_5
          try clear hcz7_0
          try clear hcz7_1
          try clear hcz7_2
          try clear hcz7_3
          try clear hcz7_4
          try clear hcz7_5
          try clear hfz11_0
          try clear hfz11_1
          try clear hfz11_2
          try clear hfz6_0
          try clear hfz6_1
          try clear hfz6_2
          try clear hfz6_3
          try clear hfz6_4
          try clear hfz6_5
          try clear hfz7_0
          try clear hfz7_1
          try clear hfz7_2
          try clear hfz7_3
          try clear hfz7_4
          try clear hfz7_5
          try clear p2
          obtain ⟨x6_2, x134000_2, x134001_2, x134002_2, rfl, HA, HK2, BK132, BK133, HB⟩ := hrel
          cases gk with
          | zero => exact absurd HA.out (by simp [backreachref06_Right.l0])
          | succ k2 =>
            have H := HA.out
            clear HA
            simp only [backreachref06_Right.l0] at H
            by_cases c12 : x6_2 < 3
            · rw [if_pos c12] at H
              have c12b0 : decide (x6_2 < 3) = true := decide_eq_true c12
              clear c12
              replace H := Option.bind_eq_some_iff.mp H
              obtain ⟨t134, A130, H⟩ := H
              replace H : (if x6_2 ≥ t134 then (if x6_2 = 0 then (if a0_3 = 0 then (backreachref06_Right.l0 k2 l1 (wrap64 (x6_2 + 1)) a0_0 a0_1 a0_2 a0_3 a0_4 a0_5 x134000_2 x134001_2 x134002_2) else (some 9)) else (if x6_2 = 1 then (if a0_4 = 0 then (backreachref06_Right.l0 k2 l1 (wrap64 (x6_2 + 1)) a0_0 a0_1 a0_2 a0_3 a0_4 a0_5 x134000_2 x134001_2 x134002_2) else (some 9)) else (if x6_2 = 2 then (if a0_5 = 0 then (backreachref06_Right.l0 k2 l1 (wrap64 (x6_2 + 1)) a0_0 a0_1 a0_2 a0_3 a0_4 a0_5 x134000_2 x134001_2 x134002_2) else (some 9)) else (none)))) else (if x6_2 = 0 then (if a0_3 < 0 then (backreachref06_Right.j2 k2 l1 x6_2 true a0_0 a0_1 a0_2 a0_3 a0_4 a0_5 x134000_2 x134001_2 x134002_2) else (backreachref06_Right.j2 k2 l1 x6_2 (decide (a0_3 ≥ (l1.length : Int))) a0_0 a0_1 a0_2 a0_3 a0_4 a0_5 x134000_2 x134001_2 x134002_2)) else (if x6_2 = 1 then (if a0_4 < 0 then (backreachref06_Right.j2 k2 l1 x6_2 true a0_0 a0_1 a0_2 a0_3 a0_4 a0_5 x134000_2 x134001_2 x134002_2) else (backreachref06_Right.j2 k2 l1 x6_2 (decide (a0_4 ≥ (l1.length : Int))) a0_0 a0_1 a0_2 a0_3 a0_4 a0_5 x134000_2 x134001_2 x134002_2)) else (if x6_2 = 2 then (if a0_5 < 0 then (backreachref06_Right.j2 k2 l1 x6_2 true a0_0 a0_1 a0_2 a0_3 a0_4 a0_5 x134000_2 x134001_2 x134002_2) else (backreachref06_Right.j2 k2 l1 x6_2 (decide (a0_5 ≥ (l1.length : Int))) a0_0 a0_1 a0_2 a0_3 a0_4 a0_5 x134000_2 x134001_2 x134002_2)) else (none))))) = some r := H
              have A13 := Aside0.mk A130
              clear A130
              by_cases c14 : x6_2 ≥ t134
              · rw [if_pos c14] at H
                have c14b0 : decide (t134 ≤ x6_2) = true := decide_eq_true c14
                clear c14
                by_cases c15 : x6_2 = 0
                · rw [if_pos c15] at H
                  have c15b0 : (x6_2 == 0) = true := beq_iff_eq.mpr c15
                  have c15b1 : (x6_2 != 0) = false := bne_eq_false_iff_eq.mpr c15
                  clear c15
                  have hai16_ : (x6_2 : Int) = 0 := beq_iff_eq.mp (by first | (with_reducible assumption) | assumption)
                  have p16 : (0 ≤ (x6_2 : Int)) = True := eq_true (by omega)
                  have q16 : ((x6_2 : Int) < 3) = True := eq_true (by omega)
                  have qi16 : True → (x6_2 : Int).toNat = 0 := fun _ => by omega
                  clear hai16_
                  by_cases c17 : a0_3 = 0
                  · rw [if_pos c17] at H
                    have c17b0 : (a0_3 == 0) = true := beq_iff_eq.mpr c17
                    have c17b1 : (a0_3 != 0) = false := bne_eq_false_iff_eq.mpr c17
                    clear c17
                    have H' := Aside0.mk H
                    clear H
                    have hnb18 := NB132_133.out
                    have hnc18 := NB133_132.out
                    have hcz19_0 : wr.cell? ⟨gb132, 0, none⟩ = some (.int .i64 a0_0) := (blk_cell BK132.out 0).trans rfl
                    have hcz19_1 : wr.cell? ⟨gb132, 1, none⟩ = some (.int .i64 a0_1) := (blk_cell BK132.out 1).trans rfl
                    have hcz19_2 : wr.cell? ⟨gb132, 2, none⟩ = some (.int .u64 a0_2) := (blk_cell BK132.out 2).trans rfl
                    have hcz19_3 : wr.cell? ⟨gb132, 3, none⟩ = some (.int .i64 a0_3) := (blk_cell BK132.out 3).trans rfl
                    have hcz19_4 : wr.cell? ⟨gb132, 4, none⟩ = some (.int .i64 a0_4) := (blk_cell BK132.out 4).trans rfl
                    have hcz19_5 : wr.cell? ⟨gb132, 5, none⟩ = some (.int .i64 a0_5) := (blk_cell BK132.out 5).trans rfl
                    have hfz19_0 := blk_frozen BK132.out 0
                    have hfz19_1 := blk_frozen BK132.out 1
                    have hfz19_2 := blk_frozen BK132.out 2
                    have hfz19_3 := blk_frozen BK132.out 3
                    have hfz19_4 := blk_frozen BK132.out 4
                    have hfz19_5 := blk_frozen BK132.out 5
                    go_wp2_with (first | ((with_reducible refine gate_callee (f := 22) rfl ?_); refine goesL_ (some 23) rfl rfl Try.func22 (by kernel_rfl) rfl #[.int .i64 a0_0] rfl (by (try simp only [List.map_toArray, List.map_cons, List.map_nil]); first | done | rfl | (simp only [List.length_drop, List.length_take]; rfl)) ?_; (with_reducible refine (backreachref06_Kids.calls k2 a0_0 t134 _ A13.out).mono ?_); rintro e w' ⟨rfl, ⟨nd, rfl⟩⟩; refine ⟨_, rfl, ?_⟩))
                    go_roundg k2
                    case measure => have := HJ2.out; have := HK2.out; omega
                    case rel => exact ⟨(wrap64 (x6_2 + 1)), (x134000_2), (x134001_2), (x134002_2), (by first | rfl | (simp; done) | (simp [*]; done)), H', ⟨by have := HJ2.out; have := HK2.out; omega⟩, ⟨by (with_reducible repeat (first | refine blk_drewN ?_ _ | refine blk_drew ?_ | refine blk_alloc ?_ _)); exact BK132.out⟩, ⟨by (with_reducible repeat (first | refine blk_drewN ?_ _ | refine blk_drew ?_ | refine blk_alloc ?_ _)); exact BK133.out⟩, ⟨by repeat (first | (with_reducible first | exact HB.out | apply below_alloc | apply pw_below_drewN | apply below_drew1 | refine below_set ?_ GE132.out | refine below_set ?_ GE133.out) | exact HB.out)⟩⟩
                  · rw [if_neg c17] at H
                    have c17b0 : (a0_3 == 0) = false := beq_eq_false_iff_ne.mpr c17
                    have c17b1 : (a0_3 != 0) = true := bne_iff_ne.mpr c17
                    obtain rfl := Option.some.inj H
                    have hnb20 := NB132_133.out
                    have hnc20 := NB133_132.out
                    have hcz21_0 : wr.cell? ⟨gb132, 0, none⟩ = some (.int .i64 a0_0) := (blk_cell BK132.out 0).trans rfl
                    have hcz21_1 : wr.cell? ⟨gb132, 1, none⟩ = some (.int .i64 a0_1) := (blk_cell BK132.out 1).trans rfl
                    have hcz21_2 : wr.cell? ⟨gb132, 2, none⟩ = some (.int .u64 a0_2) := (blk_cell BK132.out 2).trans rfl
                    have hcz21_3 : wr.cell? ⟨gb132, 3, none⟩ = some (.int .i64 a0_3) := (blk_cell BK132.out 3).trans rfl
                    have hcz21_4 : wr.cell? ⟨gb132, 4, none⟩ = some (.int .i64 a0_4) := (blk_cell BK132.out 4).trans rfl
                    have hcz21_5 : wr.cell? ⟨gb132, 5, none⟩ = some (.int .i64 a0_5) := (blk_cell BK132.out 5).trans rfl
                    have hfz21_0 := blk_frozen BK132.out 0
                    have hfz21_1 := blk_frozen BK132.out 1
                    have hfz21_2 := blk_frozen BK132.out 2
                    have hfz21_3 := blk_frozen BK132.out 3
                    have hfz21_4 := blk_frozen BK132.out 4
                    have hfz21_5 := blk_frozen BK132.out 5
                    go_wp2_with (first | ((with_reducible refine gate_callee (f := 22) rfl ?_); refine goesL_ (some 23) rfl rfl Try.func22 (by kernel_rfl) rfl #[.int .i64 a0_0] rfl (by (try simp only [List.map_toArray, List.map_cons, List.map_nil]); first | done | rfl | (simp only [List.length_drop, List.length_take]; rfl)) ?_; (with_reducible refine (backreachref06_Kids.calls k2 a0_0 t134 _ A13.out).mono ?_); rintro e w' ⟨rfl, ⟨nd, rfl⟩⟩; refine ⟨_, rfl, ?_⟩))
                    go_ret
                    exact ⟨by first | rfl | (simp [errW_none, errW_some] <;> rfl) | (simp [*, errW_none, errW_some] <;> rfl), by repeat (first | (with_reducible first | exact HB.out | apply below_alloc | apply pw_below_drewN | apply below_drew1 | refine below_set ?_ GE132.out | refine below_set ?_ GE133.out) | exact HB.out)⟩
                · rw [if_neg c15] at H
                  have c15b0 : (x6_2 == 0) = false := beq_eq_false_iff_ne.mpr c15
                  have c15b1 : (x6_2 != 0) = true := bne_iff_ne.mpr c15
                  by_cases c22 : x6_2 = 1
                  · rw [if_pos c22] at H
                    have c22b0 : (x6_2 == 1) = true := beq_iff_eq.mpr c22
                    have c22b1 : (x6_2 != 1) = false := bne_eq_false_iff_eq.mpr c22
                    clear c22
                    have hai23_ : (x6_2 : Int) = 1 := beq_iff_eq.mp (by first | (with_reducible assumption) | assumption)
                    have p23 : (0 ≤ (x6_2 : Int)) = True := eq_true (by omega)
                    have q23 : ((x6_2 : Int) < 3) = True := eq_true (by omega)
                    have qi23 : True → (x6_2 : Int).toNat = 1 := fun _ => by omega
                    clear hai23_
                    by_cases c24 : a0_4 = 0
                    · rw [if_pos c24] at H
                      have c24b0 : (a0_4 == 0) = true := beq_iff_eq.mpr c24
                      have c24b1 : (a0_4 != 0) = false := bne_eq_false_iff_eq.mpr c24
                      clear c24
                      have H' := Aside0.mk H
                      clear H
                      have hnb25 := NB132_133.out
                      have hnc25 := NB133_132.out
                      have hcz26_0 : wr.cell? ⟨gb132, 0, none⟩ = some (.int .i64 a0_0) := (blk_cell BK132.out 0).trans rfl
                      have hcz26_1 : wr.cell? ⟨gb132, 1, none⟩ = some (.int .i64 a0_1) := (blk_cell BK132.out 1).trans rfl
                      have hcz26_2 : wr.cell? ⟨gb132, 2, none⟩ = some (.int .u64 a0_2) := (blk_cell BK132.out 2).trans rfl
                      have hcz26_3 : wr.cell? ⟨gb132, 3, none⟩ = some (.int .i64 a0_3) := (blk_cell BK132.out 3).trans rfl
                      have hcz26_4 : wr.cell? ⟨gb132, 4, none⟩ = some (.int .i64 a0_4) := (blk_cell BK132.out 4).trans rfl
                      have hcz26_5 : wr.cell? ⟨gb132, 5, none⟩ = some (.int .i64 a0_5) := (blk_cell BK132.out 5).trans rfl
                      have hfz26_0 := blk_frozen BK132.out 0
                      have hfz26_1 := blk_frozen BK132.out 1
                      have hfz26_2 := blk_frozen BK132.out 2
                      have hfz26_3 := blk_frozen BK132.out 3
                      have hfz26_4 := blk_frozen BK132.out 4
                      have hfz26_5 := blk_frozen BK132.out 5
                      go_wp2_with (first | ((with_reducible refine gate_callee (f := 22) rfl ?_); refine goesL_ (some 23) rfl rfl Try.func22 (by kernel_rfl) rfl #[.int .i64 a0_0] rfl (by (try simp only [List.map_toArray, List.map_cons, List.map_nil]); first | done | rfl | (simp only [List.length_drop, List.length_take]; rfl)) ?_; (with_reducible refine (backreachref06_Kids.calls k2 a0_0 t134 _ A13.out).mono ?_); rintro e w' ⟨rfl, ⟨nd, rfl⟩⟩; refine ⟨_, rfl, ?_⟩))
                      go_roundg k2
                      case measure => have := HJ2.out; have := HK2.out; omega
                      case rel => exact ⟨(wrap64 (x6_2 + 1)), (x134000_2), (x134001_2), (x134002_2), (by first | rfl | (simp; done) | (simp [*]; done)), H', ⟨by have := HJ2.out; have := HK2.out; omega⟩, ⟨by (with_reducible repeat (first | refine blk_drewN ?_ _ | refine blk_drew ?_ | refine blk_alloc ?_ _)); exact BK132.out⟩, ⟨by (with_reducible repeat (first | refine blk_drewN ?_ _ | refine blk_drew ?_ | refine blk_alloc ?_ _)); exact BK133.out⟩, ⟨by repeat (first | (with_reducible first | exact HB.out | apply below_alloc | apply pw_below_drewN | apply below_drew1 | refine below_set ?_ GE132.out | refine below_set ?_ GE133.out) | exact HB.out)⟩⟩
                    · rw [if_neg c24] at H
                      have c24b0 : (a0_4 == 0) = false := beq_eq_false_iff_ne.mpr c24
                      have c24b1 : (a0_4 != 0) = true := bne_iff_ne.mpr c24
                      obtain rfl := Option.some.inj H
                      have hnb27 := NB132_133.out
                      have hnc27 := NB133_132.out
                      have hcz28_0 : wr.cell? ⟨gb132, 0, none⟩ = some (.int .i64 a0_0) := (blk_cell BK132.out 0).trans rfl
                      have hcz28_1 : wr.cell? ⟨gb132, 1, none⟩ = some (.int .i64 a0_1) := (blk_cell BK132.out 1).trans rfl
                      have hcz28_2 : wr.cell? ⟨gb132, 2, none⟩ = some (.int .u64 a0_2) := (blk_cell BK132.out 2).trans rfl
                      have hcz28_3 : wr.cell? ⟨gb132, 3, none⟩ = some (.int .i64 a0_3) := (blk_cell BK132.out 3).trans rfl
                      have hcz28_4 : wr.cell? ⟨gb132, 4, none⟩ = some (.int .i64 a0_4) := (blk_cell BK132.out 4).trans rfl
                      have hcz28_5 : wr.cell? ⟨gb132, 5, none⟩ = some (.int .i64 a0_5) := (blk_cell BK132.out 5).trans rfl
                      have hfz28_0 := blk_frozen BK132.out 0
                      have hfz28_1 := blk_frozen BK132.out 1
                      have hfz28_2 := blk_frozen BK132.out 2
                      have hfz28_3 := blk_frozen BK132.out 3
                      have hfz28_4 := blk_frozen BK132.out 4
                      have hfz28_5 := blk_frozen BK132.out 5
                      go_wp2_with (first | ((with_reducible refine gate_callee (f := 22) rfl ?_); refine goesL_ (some 23) rfl rfl Try.func22 (by kernel_rfl) rfl #[.int .i64 a0_0] rfl (by (try simp only [List.map_toArray, List.map_cons, List.map_nil]); first | done | rfl | (simp only [List.length_drop, List.length_take]; rfl)) ?_; (with_reducible refine (backreachref06_Kids.calls k2 a0_0 t134 _ A13.out).mono ?_); rintro e w' ⟨rfl, ⟨nd, rfl⟩⟩; refine ⟨_, rfl, ?_⟩))
                      go_ret
                      exact ⟨by first | rfl | (simp [errW_none, errW_some] <;> rfl) | (simp [*, errW_none, errW_some] <;> rfl), by repeat (first | (with_reducible first | exact HB.out | apply below_alloc | apply pw_below_drewN | apply below_drew1 | refine below_set ?_ GE132.out | refine below_set ?_ GE133.out) | exact HB.out)⟩
                  · rw [if_neg c22] at H
                    have c22b0 : (x6_2 == 1) = false := beq_eq_false_iff_ne.mpr c22
                    have c22b1 : (x6_2 != 1) = true := bne_iff_ne.mpr c22
                    by_cases c29 : x6_2 = 2
                    · rw [if_pos c29] at H
                      have c29b0 : (x6_2 == 2) = true := beq_iff_eq.mpr c29
                      have c29b1 : (x6_2 != 2) = false := bne_eq_false_iff_eq.mpr c29
                      clear c29
                      have hai30_ : (x6_2 : Int) = 2 := beq_iff_eq.mp (by first | (with_reducible assumption) | assumption)
                      have p30 : (0 ≤ (x6_2 : Int)) = True := eq_true (by omega)
                      have q30 : ((x6_2 : Int) < 3) = True := eq_true (by omega)
                      have qi30 : True → (x6_2 : Int).toNat = 2 := fun _ => by omega
                      clear hai30_
                      by_cases c31 : a0_5 = 0
                      · rw [if_pos c31] at H
                        have c31b0 : (a0_5 == 0) = true := beq_iff_eq.mpr c31
                        have c31b1 : (a0_5 != 0) = false := bne_eq_false_iff_eq.mpr c31
                        clear c31
                        have H' := Aside0.mk H
                        clear H
                        have hnb32 := NB132_133.out
                        have hnc32 := NB133_132.out
                        have hcz33_0 : wr.cell? ⟨gb132, 0, none⟩ = some (.int .i64 a0_0) := (blk_cell BK132.out 0).trans rfl
                        have hcz33_1 : wr.cell? ⟨gb132, 1, none⟩ = some (.int .i64 a0_1) := (blk_cell BK132.out 1).trans rfl
                        have hcz33_2 : wr.cell? ⟨gb132, 2, none⟩ = some (.int .u64 a0_2) := (blk_cell BK132.out 2).trans rfl
                        have hcz33_3 : wr.cell? ⟨gb132, 3, none⟩ = some (.int .i64 a0_3) := (blk_cell BK132.out 3).trans rfl
                        have hcz33_4 : wr.cell? ⟨gb132, 4, none⟩ = some (.int .i64 a0_4) := (blk_cell BK132.out 4).trans rfl
                        have hcz33_5 : wr.cell? ⟨gb132, 5, none⟩ = some (.int .i64 a0_5) := (blk_cell BK132.out 5).trans rfl
                        have hfz33_0 := blk_frozen BK132.out 0
                        have hfz33_1 := blk_frozen BK132.out 1
                        have hfz33_2 := blk_frozen BK132.out 2
                        have hfz33_3 := blk_frozen BK132.out 3
                        have hfz33_4 := blk_frozen BK132.out 4
                        have hfz33_5 := blk_frozen BK132.out 5
                        go_wp2_with (first | ((with_reducible refine gate_callee (f := 22) rfl ?_); refine goesL_ (some 23) rfl rfl Try.func22 (by kernel_rfl) rfl #[.int .i64 a0_0] rfl (by (try simp only [List.map_toArray, List.map_cons, List.map_nil]); first | done | rfl | (simp only [List.length_drop, List.length_take]; rfl)) ?_; (with_reducible refine (backreachref06_Kids.calls k2 a0_0 t134 _ A13.out).mono ?_); rintro e w' ⟨rfl, ⟨nd, rfl⟩⟩; refine ⟨_, rfl, ?_⟩))
                        go_roundg k2
                        case measure => have := HJ2.out; have := HK2.out; omega
                        case rel => exact ⟨(wrap64 (x6_2 + 1)), (x134000_2), (x134001_2), (x134002_2), (by first | rfl | (simp; done) | (simp [*]; done)), H', ⟨by have := HJ2.out; have := HK2.out; omega⟩, ⟨by (with_reducible repeat (first | refine blk_drewN ?_ _ | refine blk_drew ?_ | refine blk_alloc ?_ _)); exact BK132.out⟩, ⟨by (with_reducible repeat (first | refine blk_drewN ?_ _ | refine blk_drew ?_ | refine blk_alloc ?_ _)); exact BK133.out⟩, ⟨by repeat (first | (with_reducible first | exact HB.out | apply below_alloc | apply pw_below_drewN | apply below_drew1 | refine below_set ?_ GE132.out | refine below_set ?_ GE133.out) | exact HB.out)⟩⟩
                      · rw [if_neg c31] at H
                        have c31b0 : (a0_5 == 0) = false := beq_eq_false_iff_ne.mpr c31
                        have c31b1 : (a0_5 != 0) = true := bne_iff_ne.mpr c31
                        obtain rfl := Option.some.inj H
                        have hnb34 := NB132_133.out
                        have hnc34 := NB133_132.out
                        have hcz35_0 : wr.cell? ⟨gb132, 0, none⟩ = some (.int .i64 a0_0) := (blk_cell BK132.out 0).trans rfl
                        have hcz35_1 : wr.cell? ⟨gb132, 1, none⟩ = some (.int .i64 a0_1) := (blk_cell BK132.out 1).trans rfl
                        have hcz35_2 : wr.cell? ⟨gb132, 2, none⟩ = some (.int .u64 a0_2) := (blk_cell BK132.out 2).trans rfl
                        have hcz35_3 : wr.cell? ⟨gb132, 3, none⟩ = some (.int .i64 a0_3) := (blk_cell BK132.out 3).trans rfl
                        have hcz35_4 : wr.cell? ⟨gb132, 4, none⟩ = some (.int .i64 a0_4) := (blk_cell BK132.out 4).trans rfl
                        have hcz35_5 : wr.cell? ⟨gb132, 5, none⟩ = some (.int .i64 a0_5) := (blk_cell BK132.out 5).trans rfl
                        have hfz35_0 := blk_frozen BK132.out 0
                        have hfz35_1 := blk_frozen BK132.out 1
                        have hfz35_2 := blk_frozen BK132.out 2
                        have hfz35_3 := blk_frozen BK132.out 3
                        have hfz35_4 := blk_frozen BK132.out 4
                        have hfz35_5 := blk_frozen BK132.out 5
                        go_wp2_with (first | ((with_reducible refine gate_callee (f := 22) rfl ?_); refine goesL_ (some 23) rfl rfl Try.func22 (by kernel_rfl) rfl #[.int .i64 a0_0] rfl (by (try simp only [List.map_toArray, List.map_cons, List.map_nil]); first | done | rfl | (simp only [List.length_drop, List.length_take]; rfl)) ?_; (with_reducible refine (backreachref06_Kids.calls k2 a0_0 t134 _ A13.out).mono ?_); rintro e w' ⟨rfl, ⟨nd, rfl⟩⟩; refine ⟨_, rfl, ?_⟩))
                        go_ret
                        exact ⟨by first | rfl | (simp [errW_none, errW_some] <;> rfl) | (simp [*, errW_none, errW_some] <;> rfl), by repeat (first | (with_reducible first | exact HB.out | apply below_alloc | apply pw_below_drewN | apply below_drew1 | refine below_set ?_ GE132.out | refine below_set ?_ GE133.out) | exact HB.out)⟩
                    · rw [if_neg c29] at H
                      exact absurd H (by simp)
              · rw [if_neg c14] at H
                have c14b0 : decide (t134 ≤ x6_2) = false := decide_eq_false c14
                clear c14
                have HC36 := Aside0.mk H
                clear H
                have hnb37 := NB132_133.out
                have hnc37 := NB133_132.out
                have hcz38_0 : wr.cell? ⟨gb132, 0, none⟩ = some (.int .i64 a0_0) := (blk_cell BK132.out 0).trans rfl
                have hcz38_1 : wr.cell? ⟨gb132, 1, none⟩ = some (.int .i64 a0_1) := (blk_cell BK132.out 1).trans rfl
                have hcz38_2 : wr.cell? ⟨gb132, 2, none⟩ = some (.int .u64 a0_2) := (blk_cell BK132.out 2).trans rfl
                have hcz38_3 : wr.cell? ⟨gb132, 3, none⟩ = some (.int .i64 a0_3) := (blk_cell BK132.out 3).trans rfl
                have hcz38_4 : wr.cell? ⟨gb132, 4, none⟩ = some (.int .i64 a0_4) := (blk_cell BK132.out 4).trans rfl
                have hcz38_5 : wr.cell? ⟨gb132, 5, none⟩ = some (.int .i64 a0_5) := (blk_cell BK132.out 5).trans rfl
                have hfz38_0 := blk_frozen BK132.out 0
                have hfz38_1 := blk_frozen BK132.out 1
                have hfz38_2 := blk_frozen BK132.out 2
                have hfz38_3 := blk_frozen BK132.out 3
                have hfz38_4 := blk_frozen BK132.out 4
                have hfz38_5 := blk_frozen BK132.out 5
                go_upto_region 10 with (first | ((with_reducible refine gate_callee (f := 22) rfl ?_); refine goesL_ (some 23) rfl rfl Try.func22 (by kernel_rfl) rfl #[.int .i64 a0_0] rfl (by (try simp only [List.map_toArray, List.map_cons, List.map_nil]); first | done | rfl | (simp only [List.length_drop, List.length_take]; rfl)) ?_; (with_reducible refine (backreachref06_Kids.calls k2 a0_0 t134 _ A13.out).mono ?_); rintro e w' ⟨rfl, ⟨nd, rfl⟩⟩; refine ⟨_, rfl, ?_⟩))
                (try simp only [Act.put, List.setIfInBounds_toArray, List.set_cons_zero, List.set_cons_succ])
                go_cut [43] (fun v43 wc => ∃ (kq : Nat) (x43_35 : Bool), v43 = .bool x43_35 ∧ Aside0 (backreachref06_Right.j2 kq l1 x6_2 x43_35 a0_0 a0_1 a0_2 a0_3 a0_4 a0_5 x134000_2 x134001_2 x134002_2 = some r) ∧ Aside0 (kq ≤ k2) ∧ Aside0 (wc.heap[gb132]? = some (.cells #[.int .i64 a0_0, .int .i64 a0_1, .int .u64 a0_2, .int .i64 a0_3, .int .i64 a0_4, .int .i64 a0_5] 32 (0, 0))) ∧ Aside0 (wc.heap[gb133]? = some (.cells #[.int .i64 x134000_2, .int .i64 x134001_2, .int .i64 x134002_2] 30 (0, 0))) ∧ Aside0 (Below w.heap.size w wc))
                case first =>
                  have H := HC36.out
                  clear HC36
                  by_cases c39 : x6_2 = 0
                  · rw [if_pos c39] at H
                    have c39b0 : (x6_2 == 0) = true := beq_iff_eq.mpr c39
                    have c39b1 : (x6_2 != 0) = false := bne_eq_false_iff_eq.mpr c39
                    clear c39
                    (first | rw [c39b0] | (simp only [i64_w, i32_w]; rw [c39b0]) | skip)
                    have hai40_ : (x6_2 : Int) = 0 := beq_iff_eq.mp (by first | (with_reducible assumption) | assumption)
                    have p40 : (0 ≤ (x6_2 : Int)) = True := eq_true (by omega)
                    have q40 : ((x6_2 : Int) < 3) = True := eq_true (by omega)
                    have qi40 : True → (x6_2 : Int).toNat = 0 := fun _ => by omega
                    clear hai40_
                    by_cases c41 : a0_3 < 0
                    · rw [if_pos c41] at H
                      have c41b0 : decide (a0_3 < 0) = true := decide_eq_true c41
                      clear c41
                      have H' := Aside0.mk H
                      clear H
                      have hnb42 := NB132_133.out
                      have hnc42 := NB133_132.out
                      have hcz43_0 : wr.cell? ⟨gb132, 0, none⟩ = some (.int .i64 a0_0) := (blk_cell BK132.out 0).trans rfl
                      have hcz43_1 : wr.cell? ⟨gb132, 1, none⟩ = some (.int .i64 a0_1) := (blk_cell BK132.out 1).trans rfl
                      have hcz43_2 : wr.cell? ⟨gb132, 2, none⟩ = some (.int .u64 a0_2) := (blk_cell BK132.out 2).trans rfl
                      have hcz43_3 : wr.cell? ⟨gb132, 3, none⟩ = some (.int .i64 a0_3) := (blk_cell BK132.out 3).trans rfl
                      have hcz43_4 : wr.cell? ⟨gb132, 4, none⟩ = some (.int .i64 a0_4) := (blk_cell BK132.out 4).trans rfl
                      have hcz43_5 : wr.cell? ⟨gb132, 5, none⟩ = some (.int .i64 a0_5) := (blk_cell BK132.out 5).trans rfl
                      have hfz43_0 := blk_frozen BK132.out 0
                      have hfz43_1 := blk_frozen BK132.out 1
                      have hfz43_2 := blk_frozen BK132.out 2
                      have hfz43_3 := blk_frozen BK132.out 3
                      have hfz43_4 := blk_frozen BK132.out 4
                      have hfz43_5 := blk_frozen BK132.out 5
                      go_wp2
                      go_meet
                      case rel => exact ⟨_, (true), (by first | rfl | (simp; done) | (simp [*]; done)), H', ⟨by have := HJ2.out; have := HK2.out; first | omega | exact Nat.le_refl _⟩, ⟨by (with_reducible repeat (first | refine blk_drewN ?_ _ | refine blk_drew ?_ | refine blk_alloc ?_ _)); exact BK132.out⟩, ⟨by (with_reducible repeat (first | refine blk_drewN ?_ _ | refine blk_drew ?_ | refine blk_alloc ?_ _)); exact BK133.out⟩, ⟨by repeat (first | (with_reducible first | exact HB.out | apply below_alloc | apply pw_below_drewN | apply below_drew1 | refine below_set ?_ GE132.out | refine below_set ?_ GE133.out) | exact HB.out)⟩⟩
                    · rw [if_neg c41] at H
                      have c41b0 : decide (a0_3 < 0) = false := decide_eq_false c41
                      clear c41
                      have hai44_ : (x6_2 : Int) = 0 := beq_iff_eq.mp (by first | (with_reducible assumption) | assumption)
                      have p44 : (0 ≤ (x6_2 : Int)) = True := eq_true (by omega)
                      have q44 : ((x6_2 : Int) < 3) = True := eq_true (by omega)
                      have qi44 : True → (x6_2 : Int).toNat = 0 := fun _ => by omega
                      clear hai44_
                      have H' := Aside0.mk H
                      clear H
                      have hnb45 := NB132_133.out
                      have hnc45 := NB133_132.out
                      have hcz46_0 : wr.cell? ⟨gb132, 0, none⟩ = some (.int .i64 a0_0) := (blk_cell BK132.out 0).trans rfl
                      have hcz46_1 : wr.cell? ⟨gb132, 1, none⟩ = some (.int .i64 a0_1) := (blk_cell BK132.out 1).trans rfl
                      have hcz46_2 : wr.cell? ⟨gb132, 2, none⟩ = some (.int .u64 a0_2) := (blk_cell BK132.out 2).trans rfl
                      have hcz46_3 : wr.cell? ⟨gb132, 3, none⟩ = some (.int .i64 a0_3) := (blk_cell BK132.out 3).trans rfl
                      have hcz46_4 : wr.cell? ⟨gb132, 4, none⟩ = some (.int .i64 a0_4) := (blk_cell BK132.out 4).trans rfl
                      have hcz46_5 : wr.cell? ⟨gb132, 5, none⟩ = some (.int .i64 a0_5) := (blk_cell BK132.out 5).trans rfl
                      have hfz46_0 := blk_frozen BK132.out 0
                      have hfz46_1 := blk_frozen BK132.out 1
                      have hfz46_2 := blk_frozen BK132.out 2
                      have hfz46_3 := blk_frozen BK132.out 3
                      have hfz46_4 := blk_frozen BK132.out 4
                      have hfz46_5 := blk_frozen BK132.out 5
                      go_wp2
                      go_meet
                      case rel => exact ⟨_, (decide (a0_3 ≥ (l1.length : Int))), (by first | rfl | (simp; done) | (simp [*]; done)), H', ⟨by have := HJ2.out; have := HK2.out; first | omega | exact Nat.le_refl _⟩, ⟨by (with_reducible repeat (first | refine blk_drewN ?_ _ | refine blk_drew ?_ | refine blk_alloc ?_ _)); exact BK132.out⟩, ⟨by (with_reducible repeat (first | refine blk_drewN ?_ _ | refine blk_drew ?_ | refine blk_alloc ?_ _)); exact BK133.out⟩, ⟨by repeat (first | (with_reducible first | exact HB.out | apply below_alloc | apply pw_below_drewN | apply below_drew1 | refine below_set ?_ GE132.out | refine below_set ?_ GE133.out) | exact HB.out)⟩⟩
                  · rw [if_neg c39] at H
                    have c39b0 : (x6_2 == 0) = false := beq_eq_false_iff_ne.mpr c39
                    have c39b1 : (x6_2 != 0) = true := bne_iff_ne.mpr c39
                    (first | rw [c39b0] | (simp only [i64_w, i32_w]; rw [c39b0]) | skip)
                    by_cases c47 : x6_2 = 1
                    · rw [if_pos c47] at H
                      have c47b0 : (x6_2 == 1) = true := beq_iff_eq.mpr c47
                      have c47b1 : (x6_2 != 1) = false := bne_eq_false_iff_eq.mpr c47
                      clear c47
                      have hai48_ : (x6_2 : Int) = 1 := beq_iff_eq.mp (by first | (with_reducible assumption) | assumption)
                      have p48 : (0 ≤ (x6_2 : Int)) = True := eq_true (by omega)
                      have q48 : ((x6_2 : Int) < 3) = True := eq_true (by omega)
                      have qi48 : True → (x6_2 : Int).toNat = 1 := fun _ => by omega
                      clear hai48_
                      by_cases c49 : a0_4 < 0
                      · rw [if_pos c49] at H
                        have c49b0 : decide (a0_4 < 0) = true := decide_eq_true c49
                        clear c49
                        have H' := Aside0.mk H
                        clear H
                        have hnb50 := NB132_133.out
                        have hnc50 := NB133_132.out
                        have hcz51_0 : wr.cell? ⟨gb132, 0, none⟩ = some (.int .i64 a0_0) := (blk_cell BK132.out 0).trans rfl
                        have hcz51_1 : wr.cell? ⟨gb132, 1, none⟩ = some (.int .i64 a0_1) := (blk_cell BK132.out 1).trans rfl
                        have hcz51_2 : wr.cell? ⟨gb132, 2, none⟩ = some (.int .u64 a0_2) := (blk_cell BK132.out 2).trans rfl
                        have hcz51_3 : wr.cell? ⟨gb132, 3, none⟩ = some (.int .i64 a0_3) := (blk_cell BK132.out 3).trans rfl
                        have hcz51_4 : wr.cell? ⟨gb132, 4, none⟩ = some (.int .i64 a0_4) := (blk_cell BK132.out 4).trans rfl
                        have hcz51_5 : wr.cell? ⟨gb132, 5, none⟩ = some (.int .i64 a0_5) := (blk_cell BK132.out 5).trans rfl
                        have hfz51_0 := blk_frozen BK132.out 0
                        have hfz51_1 := blk_frozen BK132.out 1
                        have hfz51_2 := blk_frozen BK132.out 2
                        have hfz51_3 := blk_frozen BK132.out 3
                        have hfz51_4 := blk_frozen BK132.out 4
                        have hfz51_5 := blk_frozen BK132.out 5
                        go_wp2
                        go_meet
                        case rel => exact ⟨_, (true), (by first | rfl | (simp; done) | (simp [*]; done)), H', ⟨by have := HJ2.out; have := HK2.out; first | omega | exact Nat.le_refl _⟩, ⟨by (with_reducible repeat (first | refine blk_drewN ?_ _ | refine blk_drew ?_ | refine blk_alloc ?_ _)); exact BK132.out⟩, ⟨by (with_reducible repeat (first | refine blk_drewN ?_ _ | refine blk_drew ?_ | refine blk_alloc ?_ _)); exact BK133.out⟩, ⟨by repeat (first | (with_reducible first | exact HB.out | apply below_alloc | apply pw_below_drewN | apply below_drew1 | refine below_set ?_ GE132.out | refine below_set ?_ GE133.out) | exact HB.out)⟩⟩
                      · rw [if_neg c49] at H
                        have c49b0 : decide (a0_4 < 0) = false := decide_eq_false c49
                        clear c49
                        have hai52_ : (x6_2 : Int) = 1 := beq_iff_eq.mp (by first | (with_reducible assumption) | assumption)
                        have p52 : (0 ≤ (x6_2 : Int)) = True := eq_true (by omega)
                        have q52 : ((x6_2 : Int) < 3) = True := eq_true (by omega)
                        have qi52 : True → (x6_2 : Int).toNat = 1 := fun _ => by omega
                        clear hai52_
                        have H' := Aside0.mk H
                        clear H
                        have hnb53 := NB132_133.out
                        have hnc53 := NB133_132.out
                        have hcz54_0 : wr.cell? ⟨gb132, 0, none⟩ = some (.int .i64 a0_0) := (blk_cell BK132.out 0).trans rfl
                        have hcz54_1 : wr.cell? ⟨gb132, 1, none⟩ = some (.int .i64 a0_1) := (blk_cell BK132.out 1).trans rfl
                        have hcz54_2 : wr.cell? ⟨gb132, 2, none⟩ = some (.int .u64 a0_2) := (blk_cell BK132.out 2).trans rfl
                        have hcz54_3 : wr.cell? ⟨gb132, 3, none⟩ = some (.int .i64 a0_3) := (blk_cell BK132.out 3).trans rfl
                        have hcz54_4 : wr.cell? ⟨gb132, 4, none⟩ = some (.int .i64 a0_4) := (blk_cell BK132.out 4).trans rfl
                        have hcz54_5 : wr.cell? ⟨gb132, 5, none⟩ = some (.int .i64 a0_5) := (blk_cell BK132.out 5).trans rfl
                        have hfz54_0 := blk_frozen BK132.out 0
                        have hfz54_1 := blk_frozen BK132.out 1
                        have hfz54_2 := blk_frozen BK132.out 2
                        have hfz54_3 := blk_frozen BK132.out 3
                        have hfz54_4 := blk_frozen BK132.out 4
                        have hfz54_5 := blk_frozen BK132.out 5
                        go_wp2
                        go_meet
                        case rel => exact ⟨_, (decide (a0_4 ≥ (l1.length : Int))), (by first | rfl | (simp; done) | (simp [*]; done)), H', ⟨by have := HJ2.out; have := HK2.out; first | omega | exact Nat.le_refl _⟩, ⟨by (with_reducible repeat (first | refine blk_drewN ?_ _ | refine blk_drew ?_ | refine blk_alloc ?_ _)); exact BK132.out⟩, ⟨by (with_reducible repeat (first | refine blk_drewN ?_ _ | refine blk_drew ?_ | refine blk_alloc ?_ _)); exact BK133.out⟩, ⟨by repeat (first | (with_reducible first | exact HB.out | apply below_alloc | apply pw_below_drewN | apply below_drew1 | refine below_set ?_ GE132.out | refine below_set ?_ GE133.out) | exact HB.out)⟩⟩
                    · rw [if_neg c47] at H
                      have c47b0 : (x6_2 == 1) = false := beq_eq_false_iff_ne.mpr c47
                      have c47b1 : (x6_2 != 1) = true := bne_iff_ne.mpr c47
                      by_cases c55 : x6_2 = 2
                      · rw [if_pos c55] at H
                        have c55b0 : (x6_2 == 2) = true := beq_iff_eq.mpr c55
                        have c55b1 : (x6_2 != 2) = false := bne_eq_false_iff_eq.mpr c55
                        clear c55
                        have hai56_ : (x6_2 : Int) = 2 := beq_iff_eq.mp (by first | (with_reducible assumption) | assumption)
                        have p56 : (0 ≤ (x6_2 : Int)) = True := eq_true (by omega)
                        have q56 : ((x6_2 : Int) < 3) = True := eq_true (by omega)
                        have qi56 : True → (x6_2 : Int).toNat = 2 := fun _ => by omega
                        clear hai56_
                        by_cases c57 : a0_5 < 0
                        · rw [if_pos c57] at H
                          have c57b0 : decide (a0_5 < 0) = true := decide_eq_true c57
                          clear c57
                          have H' := Aside0.mk H
                          clear H
                          have hnb58 := NB132_133.out
                          have hnc58 := NB133_132.out
                          have hcz59_0 : wr.cell? ⟨gb132, 0, none⟩ = some (.int .i64 a0_0) := (blk_cell BK132.out 0).trans rfl
                          have hcz59_1 : wr.cell? ⟨gb132, 1, none⟩ = some (.int .i64 a0_1) := (blk_cell BK132.out 1).trans rfl
                          have hcz59_2 : wr.cell? ⟨gb132, 2, none⟩ = some (.int .u64 a0_2) := (blk_cell BK132.out 2).trans rfl
                          have hcz59_3 : wr.cell? ⟨gb132, 3, none⟩ = some (.int .i64 a0_3) := (blk_cell BK132.out 3).trans rfl
                          have hcz59_4 : wr.cell? ⟨gb132, 4, none⟩ = some (.int .i64 a0_4) := (blk_cell BK132.out 4).trans rfl
                          have hcz59_5 : wr.cell? ⟨gb132, 5, none⟩ = some (.int .i64 a0_5) := (blk_cell BK132.out 5).trans rfl
                          have hfz59_0 := blk_frozen BK132.out 0
                          have hfz59_1 := blk_frozen BK132.out 1
                          have hfz59_2 := blk_frozen BK132.out 2
                          have hfz59_3 := blk_frozen BK132.out 3
                          have hfz59_4 := blk_frozen BK132.out 4
                          have hfz59_5 := blk_frozen BK132.out 5
                          go_wp2
                          go_meet
                          case rel => exact ⟨_, (true), (by first | rfl | (simp; done) | (simp [*]; done)), H', ⟨by have := HJ2.out; have := HK2.out; first | omega | exact Nat.le_refl _⟩, ⟨by (with_reducible repeat (first | refine blk_drewN ?_ _ | refine blk_drew ?_ | refine blk_alloc ?_ _)); exact BK132.out⟩, ⟨by (with_reducible repeat (first | refine blk_drewN ?_ _ | refine blk_drew ?_ | refine blk_alloc ?_ _)); exact BK133.out⟩, ⟨by repeat (first | (with_reducible first | exact HB.out | apply below_alloc | apply pw_below_drewN | apply below_drew1 | refine below_set ?_ GE132.out | refine below_set ?_ GE133.out) | exact HB.out)⟩⟩
                        · rw [if_neg c57] at H
                          have c57b0 : decide (a0_5 < 0) = false := decide_eq_false c57
                          clear c57
                          have hai60_ : (x6_2 : Int) = 2 := beq_iff_eq.mp (by first | (with_reducible assumption) | assumption)
                          have p60 : (0 ≤ (x6_2 : Int)) = True := eq_true (by omega)
                          have q60 : ((x6_2 : Int) < 3) = True := eq_true (by omega)
                          have qi60 : True → (x6_2 : Int).toNat = 2 := fun _ => by omega
                          clear hai60_
                          have H' := Aside0.mk H
                          clear H
                          have hnb61 := NB132_133.out
                          have hnc61 := NB133_132.out
                          have hcz62_0 : wr.cell? ⟨gb132, 0, none⟩ = some (.int .i64 a0_0) := (blk_cell BK132.out 0).trans rfl
                          have hcz62_1 : wr.cell? ⟨gb132, 1, none⟩ = some (.int .i64 a0_1) := (blk_cell BK132.out 1).trans rfl
                          have hcz62_2 : wr.cell? ⟨gb132, 2, none⟩ = some (.int .u64 a0_2) := (blk_cell BK132.out 2).trans rfl
                          have hcz62_3 : wr.cell? ⟨gb132, 3, none⟩ = some (.int .i64 a0_3) := (blk_cell BK132.out 3).trans rfl
                          have hcz62_4 : wr.cell? ⟨gb132, 4, none⟩ = some (.int .i64 a0_4) := (blk_cell BK132.out 4).trans rfl
                          have hcz62_5 : wr.cell? ⟨gb132, 5, none⟩ = some (.int .i64 a0_5) := (blk_cell BK132.out 5).trans rfl
                          have hfz62_0 := blk_frozen BK132.out 0
                          have hfz62_1 := blk_frozen BK132.out 1
                          have hfz62_2 := blk_frozen BK132.out 2
                          have hfz62_3 := blk_frozen BK132.out 3
                          have hfz62_4 := blk_frozen BK132.out 4
                          have hfz62_5 := blk_frozen BK132.out 5
                          go_wp2
                          go_meet
                          case rel => exact ⟨_, (decide (a0_5 ≥ (l1.length : Int))), (by first | rfl | (simp; done) | (simp [*]; done)), H', ⟨by have := HJ2.out; have := HK2.out; first | omega | exact Nat.le_refl _⟩, ⟨by (with_reducible repeat (first | refine blk_drewN ?_ _ | refine blk_drew ?_ | refine blk_alloc ?_ _)); exact BK132.out⟩, ⟨by (with_reducible repeat (first | refine blk_drewN ?_ _ | refine blk_drew ?_ | refine blk_alloc ?_ _)); exact BK133.out⟩, ⟨by repeat (first | (with_reducible first | exact HB.out | apply below_alloc | apply pw_below_drewN | apply below_drew1 | refine below_set ?_ GE132.out | refine below_set ?_ GE133.out) | exact HB.out)⟩⟩
                      · rw [if_neg c55] at H
                        exact absurd H (by simp)
                case rest =>
                  clear HC36
                  try clear c1
                  try clear p1
                  try clear q1
                  try clear qi1
                  try clear c2
                  try clear p2
                  try clear q2
                  try clear qi2
                  try clear c3
                  try clear p3
                  try clear q3
                  try clear qi3
                  try clear c4
                  try clear p4
                  try clear q4
                  try clear qi4
                  try clear c5
                  try clear c5b0
                  try clear p5
                  try clear q5
                  try clear qi5
                  try clear c6
                  try clear p6
                  try clear q6
                  try clear qi6
                  try clear c8
                  try clear c10
                  try clear c12
                  try clear c12b0
                  try clear c14
                  try clear c14b0
                  try clear c15
                  try clear c15b0
                  try clear c15b1
                  try clear p16
                  try clear q16
                  try clear qi16
                  try clear c17
                  try clear c17b0
                  try clear c17b1
                  try clear c18
                  try clear c20
                  try clear c22
                  try clear c22b0
                  try clear c22b1
                  try clear p23
                  try clear q23
                  try clear qi23
                  try clear c24
                  try clear c24b0
                  try clear c24b1
                  try clear c25
                  try clear c27
                  try clear c28
                  try clear c29
                  try clear c29b0
                  try clear c29b1
                  try clear p30
                  try clear q30
                  try clear qi30
                  try clear c31
                  try clear c31b0
                  try clear c31b1
                  try clear c32
                  try clear c34
                  try clear c37
                  try clear c39
                  try clear c39b0
                  try clear c39b1
                  try clear p40
                  try clear q40
                  try clear qi40
                  try clear c41
                  try clear c41b0
                  try clear c42
                  try clear p44
                  try clear q44
                  try clear qi44
                  try clear c45
                  try clear c47
                  try clear c47b0
                  try clear c47b1
                  try clear p48
                  try clear q48
                  try clear qi48
                  try clear c49
                  try clear c49b0
                  try clear c50
                  try clear p52
                  try clear q52
                  try clear qi52
                  try clear c53
                  try clear c55
                  try clear c55b0
                  try clear c55b1
                  try clear p56
                  try clear q56
                  try clear qi56
                  try clear c57
                  try clear c57b0
                  try clear c58
                  try clear p60
                  try clear q60
                  try clear qi60
                  try clear c61
                  try clear hcz11_0
                  try clear hcz11_1
                  try clear hcz11_2
                  try clear hcz19_0
                  try clear hcz19_1
                  try clear hcz19_2
                  try clear hcz19_3
                  try clear hcz19_4
                  try clear hcz19_5
                  try clear hcz21_0
                  try clear hcz21_1
                  try clear hcz21_2
                  try clear hcz21_3
                  try clear hcz21_4
                  try clear hcz21_5
                  try clear hcz26_0
                  try clear hcz26_1
                  try clear hcz26_2
                  try clear hcz26_3
                  try clear hcz26_4
                  try clear hcz26_5
                  try clear hcz28_0
                  try clear hcz28_1
                  try clear hcz28_2
                  try clear hcz28_3
                  try clear hcz28_4
                  try clear hcz28_5
                  try clear hcz33_0
                  try clear hcz33_1
                  try clear hcz33_2
                  try clear hcz33_3
                  try clear hcz33_4
                  try clear hcz33_5
                  try clear hcz35_0
                  try clear hcz35_1
                  try clear hcz35_2
                  try clear hcz35_3
                  try clear hcz35_4
                  try clear hcz35_5
                  try clear hcz38_0
                  try clear hcz38_1
                  try clear hcz38_2
                  try clear hcz38_3
                  try clear hcz38_4
                  try clear hcz38_5
                  try clear hcz43_0
                  try clear hcz43_1
                  try clear hcz43_2
                  try clear hcz43_3
                  try clear hcz43_4
                  try clear hcz43_5
                  try clear hcz46_0
                  try clear hcz46_1
                  try clear hcz46_2
                  try clear hcz46_3
                  try clear hcz46_4
                  try clear hcz46_5
                  try clear hcz51_0
                  try clear hcz51_1
                  try clear hcz51_2
                  try clear hcz51_3
                  try clear hcz51_4
                  try clear hcz51_5
                  try clear hcz54_0
                  try clear hcz54_1
                  try clear hcz54_2
                  try clear hcz54_3
                  try clear hcz54_4
                  try clear hcz54_5
                  try clear hcz59_0
                  try clear hcz59_1
                  try clear hcz59_2
                  try clear hcz59_3
                  try clear hcz59_4
                  try clear hcz59_5
                  try clear hcz62_0
                  try clear hcz62_1
                  try clear hcz62_2
                  try clear hcz62_3
                  try clear hcz62_4
                  try clear hcz62_5
                  try clear hcz6_0
                  try clear hcz6_1
                  try clear hcz6_2
                  try clear hcz6_3
                  try clear hcz6_4
                  try clear hcz6_5
                  try clear hcz7_0
                  try clear hcz7_1
                  try clear hcz7_2
                  try clear hcz7_3
                  try clear hcz7_4
                  try clear hcz7_5
                  try clear hfz11_0
                  try clear hfz11_1
                  try clear hfz11_2
                  try clear hfz19_0
                  try clear hfz19_1
                  try clear hfz19_2
                  try clear hfz19_3
                  try clear hfz19_4
                  try clear hfz19_5
                  try clear hfz21_0
                  try clear hfz21_1
                  try clear hfz21_2
                  try clear hfz21_3
                  try clear hfz21_4
                  try clear hfz21_5
                  try clear hfz26_0
                  try clear hfz26_1
                  try clear hfz26_2
                  try clear hfz26_3
                  try clear hfz26_4
                  try clear hfz26_5
                  try clear hfz28_0
                  try clear hfz28_1
                  try clear hfz28_2
                  try clear hfz28_3
                  try clear hfz28_4
                  try clear hfz28_5
                  try clear hfz33_0
                  try clear hfz33_1
                  try clear hfz33_2
                  try clear hfz33_3
                  try clear hfz33_4
                  try clear hfz33_5
                  try clear hfz35_0
                  try clear hfz35_1
                  try clear hfz35_2
                  try clear hfz35_3
                  try clear hfz35_4
                  try clear hfz35_5
                  try clear hfz38_0
                  try clear hfz38_1
                  try clear hfz38_2
                  try clear hfz38_3
                  try clear hfz38_4
                  try clear hfz38_5
                  try clear hfz43_0
                  try clear hfz43_1
                  try clear hfz43_2
                  try clear hfz43_3
                  try clear hfz43_4
                  try clear hfz43_5
                  try clear hfz46_0
                  try clear hfz46_1
                  try clear hfz46_2
                  try clear hfz46_3
                  try clear hfz46_4
                  try clear hfz46_5
                  try clear hfz51_0
                  try clear hfz51_1
                  try clear hfz51_2
                  try clear hfz51_3
                  try clear hfz51_4
                  try clear hfz51_5
                  try clear hfz54_0
                  try clear hfz54_1
                  try clear hfz54_2
                  try clear hfz54_3
                  try clear hfz54_4
                  try clear hfz54_5
                  try clear hfz59_0
                  try clear hfz59_1
                  try clear hfz59_2
                  try clear hfz59_3
                  try clear hfz59_4
                  try clear hfz59_5
                  try clear hfz62_0
                  try clear hfz62_1
                  try clear hfz62_2
                  try clear hfz62_3
                  try clear hfz62_4
                  try clear hfz62_5
                  try clear hfz6_0
                  try clear hfz6_1
                  try clear hfz6_2
                  try clear hfz6_3
                  try clear hfz6_4
                  try clear hfz6_5
                  try clear hfz7_0
                  try clear hfz7_1
                  try clear hfz7_2
                  try clear hfz7_3
                  try clear hfz7_4
                  try clear hfz7_5
                  try clear p16
                  try clear p2
                  try clear p23
                  try clear p30
                  try clear p40
                  try clear p44
                  try clear p48
                  try clear p52
                  try clear p56
                  try clear p60
                  try clear q16
                  try clear q23
                  try clear q30
                  try clear q40
                  try clear q44
                  try clear q48
                  try clear q52
                  try clear q56
                  try clear q60
                  obtain ⟨kq, x43_35, rfl, HA, HJ35, BK132, BK133, HB⟩ := hcut
                  cases kq with
                  | zero => exact absurd HA.out (by simp [backreachref06_Right.j2])
                  | succ kj35 =>
                    have H := HA.out
                    clear HA
                    simp only [backreachref06_Right.j2] at H
                    by_cases c63 : x43_35 = true
                    · subst c63
                      have H1 : (some 9) = some r := by rw [if_pos rfl] at H; exact H
                      clear H
                      have H := H1
                      clear H1
                      obtain rfl := Option.some.inj H
                      go_wp2
                      go_ret
                      exact ⟨by first | rfl | (simp [errW_none, errW_some] <;> rfl) | (simp [*, errW_none, errW_some] <;> rfl), by repeat (first | (with_reducible first | exact HB.out | apply below_alloc | apply pw_below_drewN | apply below_drew1 | refine below_set ?_ GE132.out | refine below_set ?_ GE133.out) | exact HB.out)⟩
                    · replace c63 := Bool.eq_false_iff.mpr c63
                      subst c63
                      have H1 : (if x6_2 = 0 then (if 0 ≤ a0_3 then (if a0_3 < (l1.length : Int) then (backreachref06_Right.l0 kj35 l1 (wrap64 (x6_2 + 1)) a0_0 a0_1 a0_2 a0_3 a0_4 a0_5 ((rd_T32 l1 a0_3).f1) x134001_2 x134002_2) else (none)) else (none)) else (if x6_2 = 1 then (if 0 ≤ a0_4 then (if a0_4 < (l1.length : Int) then (backreachref06_Right.l0 kj35 l1 (wrap64 (x6_2 + 1)) a0_0 a0_1 a0_2 a0_3 a0_4 a0_5 x134000_2 ((rd_T32 l1 a0_4).f1) x134002_2) else (none)) else (none)) else (if x6_2 = 2 then (if 0 ≤ a0_5 then (if a0_5 < (l1.length : Int) then (backreachref06_Right.l0 kj35 l1 (wrap64 (x6_2 + 1)) a0_0 a0_1 a0_2 a0_3 a0_4 a0_5 x134000_2 x134001_2 ((rd_T32 l1 a0_5).f1)) else (none)) else (none)) else (none)))) = some r := by rw [if_neg (show ¬ (false = true) by decide)] at H; exact H
                      clear H
                      have H := H1
                      clear H1
                      by_cases c64 : x6_2 = 0
                      · rw [if_pos c64] at H
                        have c64b0 : (x6_2 == 0) = true := beq_iff_eq.mpr c64
                        have c64b1 : (x6_2 != 0) = false := bne_eq_false_iff_eq.mpr c64
                        clear c64
                        have hai65_ : (x6_2 : Int) = 0 := beq_iff_eq.mp (by first | (with_reducible assumption) | assumption)
                        have p65 : (0 ≤ (x6_2 : Int)) = True := eq_true (by omega)
                        have q65 : ((x6_2 : Int) < 3) = True := eq_true (by omega)
                        have qi65 : True → (x6_2 : Int).toNat = 0 := fun _ => by omega
                        clear hai65_
                        by_cases c66 : 0 ≤ a0_3
                        · rw [if_pos c66] at H
                          have c66b0 : decide (0 ≤ a0_3) = true := decide_eq_true c66
                          clear c66
                          by_cases c67 : a0_3 < (l1.length : Int)
                          · rw [if_pos c67] at H
                            have c67b0 : decide (a0_3 < (l1.length : Int)) = true := decide_eq_true c67
                            clear c67
                            have hai68_ : (x6_2 : Int) = 0 := beq_iff_eq.mp (by first | (with_reducible assumption) | assumption)
                            have p68 : (0 ≤ (x6_2 : Int)) = True := eq_true (by omega)
                            have q68 : ((x6_2 : Int) < 3) = True := eq_true (by omega)
                            have qi68 : True → (x6_2 : Int).toNat = 0 := fun _ => by omega
                            clear hai68_
                            have H' := Aside0.mk H
                            clear H
                            have hnb69 := NB132_133.out
                            have hnc69 := NB133_132.out
                            have hcz70_0 : wc.cell? ⟨gb132, 0, none⟩ = some (.int .i64 a0_0) := (blk_cell BK132.out 0).trans rfl
                            have hcz70_1 : wc.cell? ⟨gb132, 1, none⟩ = some (.int .i64 a0_1) := (blk_cell BK132.out 1).trans rfl
                            have hcz70_2 : wc.cell? ⟨gb132, 2, none⟩ = some (.int .u64 a0_2) := (blk_cell BK132.out 2).trans rfl
                            have hcz70_3 : wc.cell? ⟨gb132, 3, none⟩ = some (.int .i64 a0_3) := (blk_cell BK132.out 3).trans rfl
                            have hcz70_4 : wc.cell? ⟨gb132, 4, none⟩ = some (.int .i64 a0_4) := (blk_cell BK132.out 4).trans rfl
                            have hcz70_5 : wc.cell? ⟨gb132, 5, none⟩ = some (.int .i64 a0_5) := (blk_cell BK132.out 5).trans rfl
                            have hfz70_0 := blk_frozen BK132.out 0
                            have hfz70_1 := blk_frozen BK132.out 1
                            have hfz70_2 := blk_frozen BK132.out 2
                            have hfz70_3 := blk_frozen BK132.out 3
                            have hfz70_4 := blk_frozen BK132.out 4
                            have hfz70_5 := blk_frozen BK132.out 5
                            have p135 : 0 ≤ (a0_3 : Int) := of_decide_eq_true (by first | (with_reducible assumption) | assumption)
                            have q135 : a0_3 < (l1.length : Int) := of_decide_eq_true (by first | (with_reducible assumption) | assumption)
                            obtain ⟨ad135, e135, hx135_0, hx135_1, hx135_2, hx135_3, hx135_4, hx135_5⟩ := at_T32 HR1.out a0_3 p135 q135
                            cases e135
                            replace hx135_0 := (HB.out.cell (World.block_lt_of_cell? w _ hx135_0)).trans hx135_0
                            replace hx135_1 := (HB.out.cell (World.block_lt_of_cell? w _ hx135_1)).trans hx135_1
                            replace hx135_2 := (HB.out.cell (World.block_lt_of_cell? w _ hx135_2)).trans hx135_2
                            replace hx135_3 := (HB.out.cell (World.block_lt_of_cell? w _ hx135_3)).trans hx135_3
                            replace hx135_4 := (HB.out.cell (World.block_lt_of_cell? w _ hx135_4)).trans hx135_4
                            replace hx135_5 := (HB.out.cell (World.block_lt_of_cell? w _ hx135_5)).trans hx135_5
                            replace p135 := eq_true p135
                            replace q135 := eq_true q135
                            have hcz71_0 : wc.cell? ⟨gb133, 0, none⟩ = some (.int .i64 x134000_2) := (blk_cell BK133.out 0).trans rfl
                            have hcz71_1 : wc.cell? ⟨gb133, 1, none⟩ = some (.int .i64 x134001_2) := (blk_cell BK133.out 1).trans rfl
                            have hcz71_2 : wc.cell? ⟨gb133, 2, none⟩ = some (.int .i64 x134002_2) := (blk_cell BK133.out 2).trans rfl
                            have hfz71_0 := blk_frozen BK133.out 0
                            have hfz71_1 := blk_frozen BK133.out 1
                            have hfz71_2 := blk_frozen BK133.out 2
                            go_wp2
                            go_roundg kj35
                            case measure => have := HJ2.out; have := HK2.out; have := HJ35.out; omega
                            case rel => exact ⟨(wrap64 (x6_2 + 1)), ((rd_T32 l1 a0_3).f1), (x134001_2), (x134002_2), (by first | rfl | (simp; done) | (simp [*]; done)), H', ⟨by have := HJ2.out; have := HK2.out; have := HJ35.out; omega⟩, ⟨by (with_reducible repeat (first | refine blk_drewN ?_ _ | refine blk_drew ?_ | refine blk_alloc ?_ _)); refine blk_far ?_ NB132_133.out _; (with_reducible repeat (first | refine blk_drewN ?_ _ | refine blk_drew ?_ | refine blk_alloc ?_ _)); exact BK132.out⟩, ⟨by (with_reducible repeat (first | refine blk_drewN ?_ _ | refine blk_drew ?_ | refine blk_alloc ?_ _)); refine blk_put (cs := #[.int .i64 x134000_2, .int .i64 x134001_2, .int .i64 x134002_2]) ?_ 0 _ rfl; (with_reducible repeat (first | refine blk_drewN ?_ _ | refine blk_drew ?_ | refine blk_alloc ?_ _)); exact BK133.out⟩, ⟨by repeat (first | (with_reducible first | exact HB.out | apply below_alloc | apply pw_below_drewN | apply below_drew1 | refine below_set ?_ GE132.out | refine below_set ?_ GE133.out) | exact HB.out)⟩⟩
                          · rw [if_neg c67] at H
                            exact absurd H (by simp)
                        · rw [if_neg c66] at H
                          exact absurd H (by simp)
                      · rw [if_neg c64] at H
                        have c64b0 : (x6_2 == 0) = false := beq_eq_false_iff_ne.mpr c64
                        have c64b1 : (x6_2 != 0) = true := bne_iff_ne.mpr c64
                        by_cases c72 : x6_2 = 1
                        · rw [if_pos c72] at H
                          have c72b0 : (x6_2 == 1) = true := beq_iff_eq.mpr c72
                          have c72b1 : (x6_2 != 1) = false := bne_eq_false_iff_eq.mpr c72
                          clear c72
                          have hai73_ : (x6_2 : Int) = 1 := beq_iff_eq.mp (by first | (with_reducible assumption) | assumption)
                          have p73 : (0 ≤ (x6_2 : Int)) = True := eq_true (by omega)
                          have q73 : ((x6_2 : Int) < 3) = True := eq_true (by omega)
                          have qi73 : True → (x6_2 : Int).toNat = 1 := fun _ => by omega
                          clear hai73_
                          by_cases c74 : 0 ≤ a0_4
                          · rw [if_pos c74] at H
                            have c74b0 : decide (0 ≤ a0_4) = true := decide_eq_true c74
                            clear c74
                            by_cases c75 : a0_4 < (l1.length : Int)
                            · rw [if_pos c75] at H
                              have c75b0 : decide (a0_4 < (l1.length : Int)) = true := decide_eq_true c75
                              clear c75
                              have hai76_ : (x6_2 : Int) = 1 := beq_iff_eq.mp (by first | (with_reducible assumption) | assumption)
                              have p76 : (0 ≤ (x6_2 : Int)) = True := eq_true (by omega)
                              have q76 : ((x6_2 : Int) < 3) = True := eq_true (by omega)
                              have qi76 : True → (x6_2 : Int).toNat = 1 := fun _ => by omega
                              clear hai76_
                              have H' := Aside0.mk H
                              clear H
                              have hnb77 := NB132_133.out
                              have hnc77 := NB133_132.out
                              have hcz78_0 : wc.cell? ⟨gb132, 0, none⟩ = some (.int .i64 a0_0) := (blk_cell BK132.out 0).trans rfl
                              have hcz78_1 : wc.cell? ⟨gb132, 1, none⟩ = some (.int .i64 a0_1) := (blk_cell BK132.out 1).trans rfl
                              have hcz78_2 : wc.cell? ⟨gb132, 2, none⟩ = some (.int .u64 a0_2) := (blk_cell BK132.out 2).trans rfl
                              have hcz78_3 : wc.cell? ⟨gb132, 3, none⟩ = some (.int .i64 a0_3) := (blk_cell BK132.out 3).trans rfl
                              have hcz78_4 : wc.cell? ⟨gb132, 4, none⟩ = some (.int .i64 a0_4) := (blk_cell BK132.out 4).trans rfl
                              have hcz78_5 : wc.cell? ⟨gb132, 5, none⟩ = some (.int .i64 a0_5) := (blk_cell BK132.out 5).trans rfl
                              have hfz78_0 := blk_frozen BK132.out 0
                              have hfz78_1 := blk_frozen BK132.out 1
                              have hfz78_2 := blk_frozen BK132.out 2
                              have hfz78_3 := blk_frozen BK132.out 3
                              have hfz78_4 := blk_frozen BK132.out 4
                              have hfz78_5 := blk_frozen BK132.out 5
                              have p136 : 0 ≤ (a0_4 : Int) := of_decide_eq_true (by first | (with_reducible assumption) | assumption)
                              have q136 : a0_4 < (l1.length : Int) := of_decide_eq_true (by first | (with_reducible assumption) | assumption)
                              obtain ⟨ad136, e136, hx136_0, hx136_1, hx136_2, hx136_3, hx136_4, hx136_5⟩ := at_T32 HR1.out a0_4 p136 q136
                              cases e136
                              replace hx136_0 := (HB.out.cell (World.block_lt_of_cell? w _ hx136_0)).trans hx136_0
                              replace hx136_1 := (HB.out.cell (World.block_lt_of_cell? w _ hx136_1)).trans hx136_1
                              replace hx136_2 := (HB.out.cell (World.block_lt_of_cell? w _ hx136_2)).trans hx136_2
                              replace hx136_3 := (HB.out.cell (World.block_lt_of_cell? w _ hx136_3)).trans hx136_3
                              replace hx136_4 := (HB.out.cell (World.block_lt_of_cell? w _ hx136_4)).trans hx136_4
                              replace hx136_5 := (HB.out.cell (World.block_lt_of_cell? w _ hx136_5)).trans hx136_5
                              replace p136 := eq_true p136
                              replace q136 := eq_true q136
                              have hcz79_0 : wc.cell? ⟨gb133, 0, none⟩ = some (.int .i64 x134000_2) := (blk_cell BK133.out 0).trans rfl
                              have hcz79_1 : wc.cell? ⟨gb133, 1, none⟩ = some (.int .i64 x134001_2) := (blk_cell BK133.out 1).trans rfl
                              have hcz79_2 : wc.cell? ⟨gb133, 2, none⟩ = some (.int .i64 x134002_2) := (blk_cell BK133.out 2).trans rfl
                              have hfz79_0 := blk_frozen BK133.out 0
                              have hfz79_1 := blk_frozen BK133.out 1
                              have hfz79_2 := blk_frozen BK133.out 2
                              go_wp2
                              go_roundg kj35
                              case measure => have := HJ2.out; have := HK2.out; have := HJ35.out; omega
                              case rel => exact ⟨(wrap64 (x6_2 + 1)), (x134000_2), ((rd_T32 l1 a0_4).f1), (x134002_2), (by first | rfl | (simp; done) | (simp [*]; done)), H', ⟨by have := HJ2.out; have := HK2.out; have := HJ35.out; omega⟩, ⟨by (with_reducible repeat (first | refine blk_drewN ?_ _ | refine blk_drew ?_ | refine blk_alloc ?_ _)); refine blk_far ?_ NB132_133.out _; (with_reducible repeat (first | refine blk_drewN ?_ _ | refine blk_drew ?_ | refine blk_alloc ?_ _)); exact BK132.out⟩, ⟨by (with_reducible repeat (first | refine blk_drewN ?_ _ | refine blk_drew ?_ | refine blk_alloc ?_ _)); refine blk_put (cs := #[.int .i64 x134000_2, .int .i64 x134001_2, .int .i64 x134002_2]) ?_ 1 _ rfl; (with_reducible repeat (first | refine blk_drewN ?_ _ | refine blk_drew ?_ | refine blk_alloc ?_ _)); exact BK133.out⟩, ⟨by repeat (first | (with_reducible first | exact HB.out | apply below_alloc | apply pw_below_drewN | apply below_drew1 | refine below_set ?_ GE132.out | refine below_set ?_ GE133.out) | exact HB.out)⟩⟩
                            · rw [if_neg c75] at H
                              exact absurd H (by simp)
                          · rw [if_neg c74] at H
                            exact absurd H (by simp)
                        · rw [if_neg c72] at H
                          have c72b0 : (x6_2 == 1) = false := beq_eq_false_iff_ne.mpr c72
                          have c72b1 : (x6_2 != 1) = true := bne_iff_ne.mpr c72
                          by_cases c80 : x6_2 = 2
                          · rw [if_pos c80] at H
                            have c80b0 : (x6_2 == 2) = true := beq_iff_eq.mpr c80
                            have c80b1 : (x6_2 != 2) = false := bne_eq_false_iff_eq.mpr c80
                            clear c80
                            have hai81_ : (x6_2 : Int) = 2 := beq_iff_eq.mp (by first | (with_reducible assumption) | assumption)
                            have p81 : (0 ≤ (x6_2 : Int)) = True := eq_true (by omega)
                            have q81 : ((x6_2 : Int) < 3) = True := eq_true (by omega)
                            have qi81 : True → (x6_2 : Int).toNat = 2 := fun _ => by omega
                            clear hai81_
                            by_cases c82 : 0 ≤ a0_5
                            · rw [if_pos c82] at H
                              have c82b0 : decide (0 ≤ a0_5) = true := decide_eq_true c82
                              clear c82
                              by_cases c83 : a0_5 < (l1.length : Int)
                              · rw [if_pos c83] at H
                                have c83b0 : decide (a0_5 < (l1.length : Int)) = true := decide_eq_true c83
                                clear c83
                                have hai84_ : (x6_2 : Int) = 2 := beq_iff_eq.mp (by first | (with_reducible assumption) | assumption)
                                have p84 : (0 ≤ (x6_2 : Int)) = True := eq_true (by omega)
                                have q84 : ((x6_2 : Int) < 3) = True := eq_true (by omega)
                                have qi84 : True → (x6_2 : Int).toNat = 2 := fun _ => by omega
                                clear hai84_
                                have H' := Aside0.mk H
                                clear H
                                have hnb85 := NB132_133.out
                                have hnc85 := NB133_132.out
                                have hcz86_0 : wc.cell? ⟨gb132, 0, none⟩ = some (.int .i64 a0_0) := (blk_cell BK132.out 0).trans rfl
                                have hcz86_1 : wc.cell? ⟨gb132, 1, none⟩ = some (.int .i64 a0_1) := (blk_cell BK132.out 1).trans rfl
                                have hcz86_2 : wc.cell? ⟨gb132, 2, none⟩ = some (.int .u64 a0_2) := (blk_cell BK132.out 2).trans rfl
                                have hcz86_3 : wc.cell? ⟨gb132, 3, none⟩ = some (.int .i64 a0_3) := (blk_cell BK132.out 3).trans rfl
                                have hcz86_4 : wc.cell? ⟨gb132, 4, none⟩ = some (.int .i64 a0_4) := (blk_cell BK132.out 4).trans rfl
                                have hcz86_5 : wc.cell? ⟨gb132, 5, none⟩ = some (.int .i64 a0_5) := (blk_cell BK132.out 5).trans rfl
                                have hfz86_0 := blk_frozen BK132.out 0
                                have hfz86_1 := blk_frozen BK132.out 1
                                have hfz86_2 := blk_frozen BK132.out 2
                                have hfz86_3 := blk_frozen BK132.out 3
                                have hfz86_4 := blk_frozen BK132.out 4
                                have hfz86_5 := blk_frozen BK132.out 5
                                have p137 : 0 ≤ (a0_5 : Int) := of_decide_eq_true (by first | (with_reducible assumption) | assumption)
                                have q137 : a0_5 < (l1.length : Int) := of_decide_eq_true (by first | (with_reducible assumption) | assumption)
                                obtain ⟨ad137, e137, hx137_0, hx137_1, hx137_2, hx137_3, hx137_4, hx137_5⟩ := at_T32 HR1.out a0_5 p137 q137
                                cases e137
                                replace hx137_0 := (HB.out.cell (World.block_lt_of_cell? w _ hx137_0)).trans hx137_0
                                replace hx137_1 := (HB.out.cell (World.block_lt_of_cell? w _ hx137_1)).trans hx137_1
                                replace hx137_2 := (HB.out.cell (World.block_lt_of_cell? w _ hx137_2)).trans hx137_2
                                replace hx137_3 := (HB.out.cell (World.block_lt_of_cell? w _ hx137_3)).trans hx137_3
                                replace hx137_4 := (HB.out.cell (World.block_lt_of_cell? w _ hx137_4)).trans hx137_4
                                replace hx137_5 := (HB.out.cell (World.block_lt_of_cell? w _ hx137_5)).trans hx137_5
                                replace p137 := eq_true p137
                                replace q137 := eq_true q137
                                have hcz87_0 : wc.cell? ⟨gb133, 0, none⟩ = some (.int .i64 x134000_2) := (blk_cell BK133.out 0).trans rfl
                                have hcz87_1 : wc.cell? ⟨gb133, 1, none⟩ = some (.int .i64 x134001_2) := (blk_cell BK133.out 1).trans rfl
                                have hcz87_2 : wc.cell? ⟨gb133, 2, none⟩ = some (.int .i64 x134002_2) := (blk_cell BK133.out 2).trans rfl
                                have hfz87_0 := blk_frozen BK133.out 0
                                have hfz87_1 := blk_frozen BK133.out 1
                                have hfz87_2 := blk_frozen BK133.out 2
                                go_wp2
                                go_roundg kj35
                                case measure => have := HJ2.out; have := HK2.out; have := HJ35.out; omega
                                case rel => exact ⟨(wrap64 (x6_2 + 1)), (x134000_2), (x134001_2), ((rd_T32 l1 a0_5).f1), (by first | rfl | (simp; done) | (simp [*]; done)), H', ⟨by have := HJ2.out; have := HK2.out; have := HJ35.out; omega⟩, ⟨by (with_reducible repeat (first | refine blk_drewN ?_ _ | refine blk_drew ?_ | refine blk_alloc ?_ _)); refine blk_far ?_ NB132_133.out _; (with_reducible repeat (first | refine blk_drewN ?_ _ | refine blk_drew ?_ | refine blk_alloc ?_ _)); exact BK132.out⟩, ⟨by (with_reducible repeat (first | refine blk_drewN ?_ _ | refine blk_drew ?_ | refine blk_alloc ?_ _)); refine blk_put (cs := #[.int .i64 x134000_2, .int .i64 x134001_2, .int .i64 x134002_2]) ?_ 2 _ rfl; (with_reducible repeat (first | refine blk_drewN ?_ _ | refine blk_drew ?_ | refine blk_alloc ?_ _)); exact BK133.out⟩, ⟨by repeat (first | (with_reducible first | exact HB.out | apply below_alloc | apply pw_below_drewN | apply below_drew1 | refine below_set ?_ GE132.out | refine below_set ?_ GE133.out) | exact HB.out)⟩⟩
                              · rw [if_neg c83] at H
                                exact absurd H (by simp)
                            · rw [if_neg c82] at H
                              exact absurd H (by simp)
                          · rw [if_neg c80] at H
                            exact absurd H (by simp)
            · rw [if_neg c12] at H
              have c12b0 : decide (x6_2 < 3) = false := decide_eq_false c12
              clear c12
              have HC88 := Aside0.mk H
              clear H
              go_upto_region 13 with (fail)
              go_cut [69] (fun v69 wc => ∃ (kq : Nat) (x69_87 : Bool), v69 = .bool x69_87 ∧ Aside0 (backreachref06_Right.j3 kq x69_87 a0_0 a0_1 a0_2 a0_3 a0_4 a0_5 = some r) ∧ Aside0 (kq ≤ k2) ∧ Aside0 (wc.heap[gb132]? = some (.cells #[.int .i64 a0_0, .int .i64 a0_1, .int .u64 a0_2, .int .i64 a0_3, .int .i64 a0_4, .int .i64 a0_5] 32 (0, 0))) ∧ Aside0 (wc.heap[gb133]? = some (.cells #[.int .i64 x134000_2, .int .i64 x134001_2, .int .i64 x134002_2] 30 (0, 0))) ∧ Aside0 (Below w.heap.size w wc))
              case first =>
                have H := HC88.out
                clear HC88
                replace H := Option.bind_eq_some_iff.mp H
                obtain ⟨t138, A890, H⟩ := H
                replace H : (if t138 = a0_1 then (backreachref06_Right.j3 k2 (decide (a0_1 < 0)) a0_0 a0_1 a0_2 a0_3 a0_4 a0_5) else (backreachref06_Right.j3 k2 true a0_0 a0_1 a0_2 a0_3 a0_4 a0_5)) = some r := H
                have A89 := Aside0.mk A890
                clear A890
                by_cases c90 : t138 = a0_1
                · rw [if_pos c90] at H
                  have c90b0 : (t138 == a0_1) = true := beq_iff_eq.mpr c90
                  have c90b1 : (t138 != a0_1) = false := bne_eq_false_iff_eq.mpr c90
                  clear c90
                  (first | rw [c90b0] | (simp only [i64_w, i32_w]; rw [c90b0]) | skip)
                  have H' := Aside0.mk H
                  clear H
                  try go_wp2
                  have n0_ := Aside0.mk (blk_drew BK132.out)
                  have n1_ := Aside0.mk (blk_drew BK133.out)
                  have n2_ := Aside0.mk (below_drew1 HB.out)
                  clear BK132
                  clear BK133
                  clear HB
                  have BK132 := n0_
                  have BK133 := n1_
                  have HB := n2_
                  clear n0_ n1_ n2_
                  refine start_ (n := 16) (S := fun w' => w'.cell? ⟨gb132, 0, none⟩ = some (.int .i64 a0_0) ∧ w'.cell? ⟨gb132, 1, none⟩ = some (.int .i64 a0_1) ∧ w'.cell? ⟨gb132, 2, none⟩ = some (.int .u64 a0_2) ∧ w'.cell? ⟨gb132, 3, none⟩ = some (.int .i64 a0_3) ∧ w'.cell? ⟨gb132, 4, none⟩ = some (.int .i64 a0_4) ∧ w'.cell? ⟨gb132, 5, none⟩ = some (.int .i64 a0_5) ∧ w'.cell? ⟨gb133, 0, none⟩ = some (.int .i64 x134000_2) ∧ w'.cell? ⟨gb133, 1, none⟩ = some (.int .i64 x134001_2) ∧ w'.cell? ⟨gb133, 2, none⟩ = some (.int .i64 x134002_2)) (ds := []) #[false, false, false, false, false, false, false, false, false, false, false, false, false, false, false, false] (by kernel_rfl) rfl rfl ⟨(blk_cell BK132.out 0).trans rfl, (blk_cell BK132.out 1).trans rfl, (blk_cell BK132.out 2).trans rfl, (blk_cell BK132.out 3).trans rfl, (blk_cell BK132.out 4).trans rfl, (blk_cell BK132.out 5).trans rfl, (blk_cell BK133.out 0).trans rfl, (blk_cell BK133.out 1).trans rfl, (blk_cell BK133.out 2).trans rfl⟩ (fun hHeld => ?_); refine with_tabW backreachref06_Right.tab13 backreachref06_Right.bits13 (fun HT_ HW_ => ?_)
                  generalize wr.drew = w91 at BK132 BK133 HB hHeld ⊢
                  refine pure_ (i := 1) (N := some 55) (v := ?_) (a' := ?_) #[false, true, false, false, false, false, false, false, false, false, false, false, false, false, false, false] rfl rfl (any_of HT_.out (by kernel_rfl)) (fun _ _ _ h => h) (Or.inl ⟨by rfl, ?_⟩) ?_ ?_
                  rotate_left
                  · intro w'
                    go_simp
                    with_reducible rfl
                  rotate_left
                  · simp only [Act.put, List.setIfInBounds_toArray, List.set_cons_zero, List.set_cons_succ, i64_w, i32_w]
                    rfl
                  refine pure_ (i := 3) (N := some 57) (v := ?_) (a' := ?_) #[false, true, false, true, false, false, false, false, false, false, false, false, false, false, false, false] rfl rfl (any_of HT_.out (by kernel_rfl)) (fun _ _ _ h => h) (Or.inl ⟨by rfl, ?_⟩) ?_ ?_
                  rotate_left
                  · intro w'
                    go_simp
                    with_reducible rfl
                  rotate_left
                  · simp only [Act.put, List.setIfInBounds_toArray, List.set_cons_zero, List.set_cons_succ, i64_w, i32_w]
                    rfl
                  refine pure_ (i := 5) (N := some 59) (v := ?_) (a' := ?_) #[false, true, false, true, false, true, false, false, false, false, false, false, false, false, false, false] rfl rfl (any_of HT_.out (by kernel_rfl)) (fun _ _ _ h => h) (Or.inl ⟨by rfl, ?_⟩) ?_ ?_
                  rotate_left
                  · intro w'
                    go_simp
                    with_reducible rfl
                  rotate_left
                  · simp only [Act.put, List.setIfInBounds_toArray, List.set_cons_zero, List.set_cons_succ, i64_w, i32_w]
                    rfl
                  refine pure_ (i := 8) (N := some 62) (v := ?_) (a' := ?_) #[false, true, false, true, false, true, false, false, true, false, false, false, false, false, false, false] rfl rfl (any_of HT_.out (by kernel_rfl)) (fun _ _ _ h => h) (Or.inl ⟨by rfl, ?_⟩) ?_ ?_
                  rotate_left
                  · intro w'
                    go_simp
                    with_reducible rfl
                  rotate_left
                  · simp only [Act.put, List.setIfInBounds_toArray, List.set_cons_zero, List.set_cons_succ, i64_w, i32_w]
                    rfl
                  refine take_ (i := 0) (N := some 54) (v := ?_) (a' := ?_) #[true, true, false, true, false, true, false, false, true, false, false, false, false, false, false, false] rfl rfl (take_ofW HT_.out HW_.out (by kernel_rfl)) (fun _ _ _ h => h) (Or.inl ⟨by rfl, ?_⟩) hHeld ?_ ?_
                  rotate_left
                  · rintro w' ⟨s0, s1, s2, s3, s4, s5, s6, s7, s8⟩
                    go_simp
                    with_reducible rfl
                  rotate_left
                  · simp only [Act.put, List.setIfInBounds_toArray, List.set_cons_zero, List.set_cons_succ, i64_w, i32_w]
                    rfl
                  refine take_ (i := 2) (N := some 56) (v := ?_) (a' := ?_) #[true, true, true, true, false, true, false, false, true, false, false, false, false, false, false, false] rfl rfl (take_ofW HT_.out HW_.out (by kernel_rfl)) (fun _ _ _ h => h) (Or.inl ⟨by rfl, ?_⟩) hHeld ?_ ?_
                  rotate_left
                  · rintro w' ⟨s0, s1, s2, s3, s4, s5, s6, s7, s8⟩
                    go_simp
                    with_reducible rfl
                  rotate_left
                  · simp only [Act.put, List.setIfInBounds_toArray, List.set_cons_zero, List.set_cons_succ, i64_w, i32_w]
                    rfl
                  refine take_ (i := 4) (N := some 58) (v := ?_) (a' := ?_) #[true, true, true, true, true, true, false, false, true, false, false, false, false, false, false, false] rfl rfl (take_ofW HT_.out HW_.out (by kernel_rfl)) (fun _ _ _ h => h) (Or.inl ⟨by rfl, ?_⟩) hHeld ?_ ?_
                  rotate_left
                  · rintro w' ⟨s0, s1, s2, s3, s4, s5, s6, s7, s8⟩
                    go_simp
                    with_reducible rfl
                  rotate_left
                  · simp only [Act.put, List.setIfInBounds_toArray, List.set_cons_zero, List.set_cons_succ, i64_w, i32_w]
                    rfl
                  refine take_ (i := 6) (N := some 60) (v := ?_) (a' := ?_) #[true, true, true, true, true, true, true, false, true, false, false, false, false, false, false, false] rfl rfl (take_ofW HT_.out HW_.out (by kernel_rfl)) (fun _ _ _ h => h) (Or.inl ⟨by rfl, ?_⟩) hHeld ?_ ?_
                  rotate_left
                  · rintro w' ⟨s0, s1, s2, s3, s4, s5, s6, s7, s8⟩
                    go_simp
                    with_reducible rfl
                  rotate_left
                  · simp only [Act.put, List.setIfInBounds_toArray, List.set_cons_zero, List.set_cons_succ, i64_w, i32_w]
                    rfl
                  refine take_ (i := 9) (N := some 63) (v := ?_) (a' := ?_) #[true, true, true, true, true, true, true, false, true, true, false, false, false, false, false, false] rfl rfl (take_ofW HT_.out HW_.out (by kernel_rfl)) (fun _ _ _ h => h) (Or.inl ⟨by rfl, ?_⟩) hHeld ?_ ?_
                  rotate_left
                  · rintro w' ⟨s0, s1, s2, s3, s4, s5, s6, s7, s8⟩
                    go_simp
                    with_reducible rfl
                  rotate_left
                  · simp only [Act.put, List.setIfInBounds_toArray, List.set_cons_zero, List.set_cons_succ, i64_w, i32_w]
                    rfl
                  refine one_ (i := 7) (N := some 61) #[true, true, true, true, true, true, true, true, true, true, false, false, false, false, false, false] rfl rfl (one_of HT_.out (by kernel_rfl)) (by decide) (fun K hK => ?_)
                  refine goes_ Try.func36 (by kernel_rfl) rfl #[.agg #[.int .i64 a0_0, .int .i64 a0_1, .int .u64 a0_2, .int .i64 a0_3, .int .i64 a0_4, .int .i64 a0_5], .int .i64 x134000_2, .int .i64 x134001_2, .int .i64 x134002_2] (by rfl) rfl rfl (by (try simp only [List.map_toArray, List.map_cons, List.map_nil]); first | done | rfl | (simp only [List.length_drop, List.length_take]; rfl)) ?_
                  with_reducible refine (backreachref06_width.calls k2 a0_0 a0_1 a0_2 a0_3 a0_4 a0_5 x134000_2 x134001_2 x134002_2 t138 _ A89.out).mono ?_
                  rintro e w92 ⟨rfl, hb⟩
                  refine ⟨_, rfl, ?_⟩
                  have n0_ := Aside0.mk (blk_below (g := gb132) (o := .cells #[.int .i64 a0_0, .int .i64 a0_1, .int .u64 a0_2, .int .i64 a0_3, .int .i64 a0_4, .int .i64 a0_5] 32 (0, 0)) (by (with_reducible repeat (first | refine blk_drewN ?_ _ | refine blk_drew ?_ | refine blk_alloc ?_ _)); exact BK132.out) hb)
                  have n1_ := Aside0.mk (blk_below (g := gb133) (o := .cells #[.int .i64 x134000_2, .int .i64 x134001_2, .int .i64 x134002_2] 30 (0, 0)) (by (with_reducible repeat (first | refine blk_drewN ?_ _ | refine blk_drew ?_ | refine blk_alloc ?_ _)); exact BK133.out) hb)
                  have n2_ := Aside0.mk (below_step (by repeat (first | (with_reducible first | exact HB.out | apply below_alloc | apply pw_below_drewN | apply below_drew1 | refine below_set ?_ GE132.out | refine below_set ?_ GE133.out) | exact HB.out)) hb)
                  clear BK132
                  clear BK133
                  clear HB
                  have BK132 := n0_
                  have BK133 := n1_
                  have HB := n2_
                  clear n0_ n1_ n2_
                  (try clear hb)
                  (try clear hb2)
                  (try clear hk)
                  (try clear hi)
                  refine hK.out _ _ ⟨(blk_cell BK132.out 0).trans rfl, (blk_cell BK132.out 1).trans rfl, (blk_cell BK132.out 2).trans rfl, (blk_cell BK132.out 3).trans rfl, (blk_cell BK132.out 4).trans rfl, (blk_cell BK132.out 5).trans rfl, (blk_cell BK133.out 0).trans rfl, (blk_cell BK133.out 1).trans rfl, (blk_cell BK133.out 2).trans rfl⟩ (fun hHeld => ?_)
                  clear hK K
                  refine norm_ (a' := ?_) ?_ ?_
                  rotate_left
                  · show Act.put _ (some 61) _ = _
                    simp only [Act.put, List.setIfInBounds_toArray, List.set_cons_zero, List.set_cons_succ, i64_w, i32_w]
                    rfl
                  refine pure_ (i := 10) (N := some 64) (v := ?_) (a' := ?_) #[true, true, true, true, true, true, true, true, true, true, true, false, false, false, false, false] rfl rfl (any_of HT_.out (by kernel_rfl)) (fun _ _ _ h => h) (Or.inl ⟨by rfl, ?_⟩) ?_ ?_
                  rotate_left
                  · intro w'
                    go_simp
                    with_reducible rfl
                  rotate_left
                  · simp only [Act.put, List.setIfInBounds_toArray, List.set_cons_zero, List.set_cons_succ, i64_w, i32_w]
                    rfl
                  refine pure_ (i := 11) (N := some 65) (v := ?_) (a' := ?_) #[true, true, true, true, true, true, true, true, true, true, true, true, false, false, false, false] rfl rfl (any_of HT_.out (by kernel_rfl)) (fun _ _ _ h => h) (Or.inl ⟨by rfl, ?_⟩) ?_ ?_
                  rotate_left
                  · intro w'
                    go_simp
                    with_reducible rfl
                  rotate_left
                  · simp only [Act.put, List.setIfInBounds_toArray, List.set_cons_zero, List.set_cons_succ, i64_w, i32_w]
                    rfl
                  refine pure_ (i := 12) (N := some 66) (v := ?_) (a' := ?_) #[true, true, true, true, true, true, true, true, true, true, true, true, true, false, false, false] rfl rfl (any_of HT_.out (by kernel_rfl)) (fun _ _ _ h => h) (Or.inl ⟨by rfl, ?_⟩) ?_ ?_
                  rotate_left
                  · intro w'
                    go_simp
                    with_reducible rfl
                  rotate_left
                  · simp only [Act.put, List.setIfInBounds_toArray, List.set_cons_zero, List.set_cons_succ, i64_w, i32_w]
                    rfl
                  refine take_ (i := 13) (N := some 67) (v := ?_) (a' := ?_) #[true, true, true, true, true, true, true, true, true, true, true, true, true, true, false, false] rfl rfl (take_ofW HT_.out HW_.out (by kernel_rfl)) (fun _ _ _ h => h) (Or.inl ⟨by rfl, ?_⟩) hHeld ?_ ?_
                  rotate_left
                  · rintro w' ⟨s0, s1, s2, s3, s4, s5, s6, s7, s8⟩
                    go_simp
                    with_reducible rfl
                  rotate_left
                  · simp only [Act.put, List.setIfInBounds_toArray, List.set_cons_zero, List.set_cons_succ, i64_w, i32_w]
                    rfl
                  refine pure_ (i := 14) (N := some 68) (v := ?_) (a' := ?_) #[true, true, true, true, true, true, true, true, true, true, true, true, true, true, true, false] rfl rfl (any_of HT_.out (by kernel_rfl)) (fun _ _ _ h => h) (Or.inl ⟨by rfl, ?_⟩) ?_ ?_
                  rotate_left
                  · intro w'
                    go_simp
                    with_reducible rfl
                  rotate_left
                  · simp only [Act.put, List.setIfInBounds_toArray, List.set_cons_zero, List.set_cons_succ, i64_w, i32_w]
                    rfl
                  refine pure_ (i := 15) (N := some 69) (v := ?_) (a' := ?_) #[true, true, true, true, true, true, true, true, true, true, true, true, true, true, true, true] rfl rfl (any_of HT_.out (by kernel_rfl)) (fun _ _ _ h => h) (Or.inl ⟨by rfl, ?_⟩) ?_ ?_
                  rotate_left
                  · intro w'
                    go_simp
                    with_reducible rfl
                  rotate_left
                  · simp only [Act.put, List.setIfInBounds_toArray, List.set_cons_zero, List.set_cons_succ, i64_w, i32_w]
                    rfl
                  refine done_ (done_of HT_.out (by kernel_rfl)) ?_
                  try go_wp2
                  go_meet
                  case rel => exact ⟨_, (decide (a0_1 < 0)), (by first | rfl | (simp; done) | (simp [*]; done)), H', ⟨by have := HJ2.out; have := HK2.out; first | omega | exact Nat.le_refl _⟩, ⟨by (with_reducible repeat (first | refine blk_drewN ?_ _ | refine blk_drew ?_ | refine blk_alloc ?_ _)); exact BK132.out⟩, ⟨by (with_reducible repeat (first | refine blk_drewN ?_ _ | refine blk_drew ?_ | refine blk_alloc ?_ _)); exact BK133.out⟩, ⟨by repeat (first | (with_reducible first | exact HB.out | apply below_alloc | apply pw_below_drewN | apply below_drew1 | refine below_set ?_ GE132.out | refine below_set ?_ GE133.out) | exact HB.out)⟩⟩
                · rw [if_neg c90] at H
                  have c90b0 : (t138 == a0_1) = false := beq_eq_false_iff_ne.mpr c90
                  have c90b1 : (t138 != a0_1) = true := bne_iff_ne.mpr c90
                  (first | rw [c90b0] | (simp only [i64_w, i32_w]; rw [c90b0]) | skip)
                  have H' := Aside0.mk H
                  clear H
                  try go_wp2
                  have n0_ := Aside0.mk (blk_drew BK132.out)
                  have n1_ := Aside0.mk (blk_drew BK133.out)
                  have n2_ := Aside0.mk (below_drew1 HB.out)
                  clear BK132
                  clear BK133
                  clear HB
                  have BK132 := n0_
                  have BK133 := n1_
                  have HB := n2_
                  clear n0_ n1_ n2_
                  refine start_ (n := 16) (S := fun w' => w'.cell? ⟨gb132, 0, none⟩ = some (.int .i64 a0_0) ∧ w'.cell? ⟨gb132, 1, none⟩ = some (.int .i64 a0_1) ∧ w'.cell? ⟨gb132, 2, none⟩ = some (.int .u64 a0_2) ∧ w'.cell? ⟨gb132, 3, none⟩ = some (.int .i64 a0_3) ∧ w'.cell? ⟨gb132, 4, none⟩ = some (.int .i64 a0_4) ∧ w'.cell? ⟨gb132, 5, none⟩ = some (.int .i64 a0_5) ∧ w'.cell? ⟨gb133, 0, none⟩ = some (.int .i64 x134000_2) ∧ w'.cell? ⟨gb133, 1, none⟩ = some (.int .i64 x134001_2) ∧ w'.cell? ⟨gb133, 2, none⟩ = some (.int .i64 x134002_2)) (ds := []) #[false, false, false, false, false, false, false, false, false, false, false, false, false, false, false, false] (by kernel_rfl) rfl rfl ⟨(blk_cell BK132.out 0).trans rfl, (blk_cell BK132.out 1).trans rfl, (blk_cell BK132.out 2).trans rfl, (blk_cell BK132.out 3).trans rfl, (blk_cell BK132.out 4).trans rfl, (blk_cell BK132.out 5).trans rfl, (blk_cell BK133.out 0).trans rfl, (blk_cell BK133.out 1).trans rfl, (blk_cell BK133.out 2).trans rfl⟩ (fun hHeld => ?_); refine with_tabW backreachref06_Right.tab13 backreachref06_Right.bits13 (fun HT_ HW_ => ?_)
                  generalize wr.drew = w93 at BK132 BK133 HB hHeld ⊢
                  refine pure_ (i := 1) (N := some 55) (v := ?_) (a' := ?_) #[false, true, false, false, false, false, false, false, false, false, false, false, false, false, false, false] rfl rfl (any_of HT_.out (by kernel_rfl)) (fun _ _ _ h => h) (Or.inl ⟨by rfl, ?_⟩) ?_ ?_
                  rotate_left
                  · intro w'
                    go_simp
                    with_reducible rfl
                  rotate_left
                  · simp only [Act.put, List.setIfInBounds_toArray, List.set_cons_zero, List.set_cons_succ, i64_w, i32_w]
                    rfl
                  refine pure_ (i := 3) (N := some 57) (v := ?_) (a' := ?_) #[false, true, false, true, false, false, false, false, false, false, false, false, false, false, false, false] rfl rfl (any_of HT_.out (by kernel_rfl)) (fun _ _ _ h => h) (Or.inl ⟨by rfl, ?_⟩) ?_ ?_
                  rotate_left
                  · intro w'
                    go_simp
                    with_reducible rfl
                  rotate_left
                  · simp only [Act.put, List.setIfInBounds_toArray, List.set_cons_zero, List.set_cons_succ, i64_w, i32_w]
                    rfl
                  refine pure_ (i := 5) (N := some 59) (v := ?_) (a' := ?_) #[false, true, false, true, false, true, false, false, false, false, false, false, false, false, false, false] rfl rfl (any_of HT_.out (by kernel_rfl)) (fun _ _ _ h => h) (Or.inl ⟨by rfl, ?_⟩) ?_ ?_
                  rotate_left
                  · intro w'
                    go_simp
                    with_reducible rfl
                  rotate_left
                  · simp only [Act.put, List.setIfInBounds_toArray, List.set_cons_zero, List.set_cons_succ, i64_w, i32_w]
                    rfl
                  refine pure_ (i := 8) (N := some 62) (v := ?_) (a' := ?_) #[false, true, false, true, false, true, false, false, true, false, false, false, false, false, false, false] rfl rfl (any_of HT_.out (by kernel_rfl)) (fun _ _ _ h => h) (Or.inl ⟨by rfl, ?_⟩) ?_ ?_
                  rotate_left
                  · intro w'
                    go_simp
                    with_reducible rfl
                  rotate_left
                  · simp only [Act.put, List.setIfInBounds_toArray, List.set_cons_zero, List.set_cons_succ, i64_w, i32_w]
                    rfl
                  refine take_ (i := 0) (N := some 54) (v := ?_) (a' := ?_) #[true, true, false, true, false, true, false, false, true, false, false, false, false, false, false, false] rfl rfl (take_ofW HT_.out HW_.out (by kernel_rfl)) (fun _ _ _ h => h) (Or.inl ⟨by rfl, ?_⟩) hHeld ?_ ?_
                  rotate_left
                  · rintro w' ⟨s0, s1, s2, s3, s4, s5, s6, s7, s8⟩
                    go_simp
                    with_reducible rfl
                  rotate_left
                  · simp only [Act.put, List.setIfInBounds_toArray, List.set_cons_zero, List.set_cons_succ, i64_w, i32_w]
                    rfl
                  refine take_ (i := 2) (N := some 56) (v := ?_) (a' := ?_) #[true, true, true, true, false, true, false, false, true, false, false, false, false, false, false, false] rfl rfl (take_ofW HT_.out HW_.out (by kernel_rfl)) (fun _ _ _ h => h) (Or.inl ⟨by rfl, ?_⟩) hHeld ?_ ?_
                  rotate_left
                  · rintro w' ⟨s0, s1, s2, s3, s4, s5, s6, s7, s8⟩
                    go_simp
                    with_reducible rfl
                  rotate_left
                  · simp only [Act.put, List.setIfInBounds_toArray, List.set_cons_zero, List.set_cons_succ, i64_w, i32_w]
                    rfl
                  refine take_ (i := 4) (N := some 58) (v := ?_) (a' := ?_) #[true, true, true, true, true, true, false, false, true, false, false, false, false, false, false, false] rfl rfl (take_ofW HT_.out HW_.out (by kernel_rfl)) (fun _ _ _ h => h) (Or.inl ⟨by rfl, ?_⟩) hHeld ?_ ?_
                  rotate_left
                  · rintro w' ⟨s0, s1, s2, s3, s4, s5, s6, s7, s8⟩
                    go_simp
                    with_reducible rfl
                  rotate_left
                  · simp only [Act.put, List.setIfInBounds_toArray, List.set_cons_zero, List.set_cons_succ, i64_w, i32_w]
                    rfl
                  refine take_ (i := 6) (N := some 60) (v := ?_) (a' := ?_) #[true, true, true, true, true, true, true, false, true, false, false, false, false, false, false, false] rfl rfl (take_ofW HT_.out HW_.out (by kernel_rfl)) (fun _ _ _ h => h) (Or.inl ⟨by rfl, ?_⟩) hHeld ?_ ?_
                  rotate_left
                  · rintro w' ⟨s0, s1, s2, s3, s4, s5, s6, s7, s8⟩
                    go_simp
                    with_reducible rfl
                  rotate_left
                  · simp only [Act.put, List.setIfInBounds_toArray, List.set_cons_zero, List.set_cons_succ, i64_w, i32_w]
                    rfl
                  refine take_ (i := 9) (N := some 63) (v := ?_) (a' := ?_) #[true, true, true, true, true, true, true, false, true, true, false, false, false, false, false, false] rfl rfl (take_ofW HT_.out HW_.out (by kernel_rfl)) (fun _ _ _ h => h) (Or.inl ⟨by rfl, ?_⟩) hHeld ?_ ?_
                  rotate_left
                  · rintro w' ⟨s0, s1, s2, s3, s4, s5, s6, s7, s8⟩
                    go_simp
                    with_reducible rfl
                  rotate_left
                  · simp only [Act.put, List.setIfInBounds_toArray, List.set_cons_zero, List.set_cons_succ, i64_w, i32_w]
                    rfl
                  refine one_ (i := 7) (N := some 61) #[true, true, true, true, true, true, true, true, true, true, false, false, false, false, false, false] rfl rfl (one_of HT_.out (by kernel_rfl)) (by decide) (fun K hK => ?_)
                  refine goes_ Try.func36 (by kernel_rfl) rfl #[.agg #[.int .i64 a0_0, .int .i64 a0_1, .int .u64 a0_2, .int .i64 a0_3, .int .i64 a0_4, .int .i64 a0_5], .int .i64 x134000_2, .int .i64 x134001_2, .int .i64 x134002_2] (by rfl) rfl rfl (by (try simp only [List.map_toArray, List.map_cons, List.map_nil]); first | done | rfl | (simp only [List.length_drop, List.length_take]; rfl)) ?_
                  with_reducible refine (backreachref06_width.calls k2 a0_0 a0_1 a0_2 a0_3 a0_4 a0_5 x134000_2 x134001_2 x134002_2 t138 _ A89.out).mono ?_
                  rintro e w94 ⟨rfl, hb⟩
                  refine ⟨_, rfl, ?_⟩
                  have n0_ := Aside0.mk (blk_below (g := gb132) (o := .cells #[.int .i64 a0_0, .int .i64 a0_1, .int .u64 a0_2, .int .i64 a0_3, .int .i64 a0_4, .int .i64 a0_5] 32 (0, 0)) (by (with_reducible repeat (first | refine blk_drewN ?_ _ | refine blk_drew ?_ | refine blk_alloc ?_ _)); exact BK132.out) hb)
                  have n1_ := Aside0.mk (blk_below (g := gb133) (o := .cells #[.int .i64 x134000_2, .int .i64 x134001_2, .int .i64 x134002_2] 30 (0, 0)) (by (with_reducible repeat (first | refine blk_drewN ?_ _ | refine blk_drew ?_ | refine blk_alloc ?_ _)); exact BK133.out) hb)
                  have n2_ := Aside0.mk (below_step (by repeat (first | (with_reducible first | exact HB.out | apply below_alloc | apply pw_below_drewN | apply below_drew1 | refine below_set ?_ GE132.out | refine below_set ?_ GE133.out) | exact HB.out)) hb)
                  clear BK132
                  clear BK133
                  clear HB
                  have BK132 := n0_
                  have BK133 := n1_
                  have HB := n2_
                  clear n0_ n1_ n2_
                  (try clear hb)
                  (try clear hb2)
                  (try clear hk)
                  (try clear hi)
                  refine hK.out _ _ ⟨(blk_cell BK132.out 0).trans rfl, (blk_cell BK132.out 1).trans rfl, (blk_cell BK132.out 2).trans rfl, (blk_cell BK132.out 3).trans rfl, (blk_cell BK132.out 4).trans rfl, (blk_cell BK132.out 5).trans rfl, (blk_cell BK133.out 0).trans rfl, (blk_cell BK133.out 1).trans rfl, (blk_cell BK133.out 2).trans rfl⟩ (fun hHeld => ?_)
                  clear hK K
                  refine norm_ (a' := ?_) ?_ ?_
                  rotate_left
                  · show Act.put _ (some 61) _ = _
                    simp only [Act.put, List.setIfInBounds_toArray, List.set_cons_zero, List.set_cons_succ, i64_w, i32_w]
                    rfl
                  refine pure_ (i := 10) (N := some 64) (v := ?_) (a' := ?_) #[true, true, true, true, true, true, true, true, true, true, true, false, false, false, false, false] rfl rfl (any_of HT_.out (by kernel_rfl)) (fun _ _ _ h => h) (Or.inl ⟨by rfl, ?_⟩) ?_ ?_
                  rotate_left
                  · intro w'
                    go_simp
                    with_reducible rfl
                  rotate_left
                  · simp only [Act.put, List.setIfInBounds_toArray, List.set_cons_zero, List.set_cons_succ, i64_w, i32_w]
                    rfl
                  refine pure_ (i := 11) (N := some 65) (v := ?_) (a' := ?_) #[true, true, true, true, true, true, true, true, true, true, true, true, false, false, false, false] rfl rfl (any_of HT_.out (by kernel_rfl)) (fun _ _ _ h => h) (Or.inl ⟨by rfl, ?_⟩) ?_ ?_
                  rotate_left
                  · intro w'
                    go_simp
                    with_reducible rfl
                  rotate_left
                  · simp only [Act.put, List.setIfInBounds_toArray, List.set_cons_zero, List.set_cons_succ, i64_w, i32_w]
                    rfl
                  refine pure_ (i := 12) (N := some 66) (v := undef) (a' := ?_) #[true, true, true, true, true, true, true, true, true, true, true, true, true, false, false, false] rfl rfl (any_of HT_.out (by kernel_rfl)) (fun _ _ _ h => h) (Or.inr ⟨by rfl, rfl⟩) ?_ ?_
                  rotate_left
                  · simp only [Act.put, List.setIfInBounds_toArray, List.set_cons_zero, List.set_cons_succ, i64_w, i32_w]
                    rfl
                  refine pure_ (i := 13) (N := some 67) (v := undef) (a' := ?_) #[true, true, true, true, true, true, true, true, true, true, true, true, true, true, false, false] rfl rfl (any_of HT_.out (by kernel_rfl)) (fun _ _ _ h => h) (Or.inr ⟨by rfl, rfl⟩) ?_ ?_
                  rotate_left
                  · simp only [Act.put, List.setIfInBounds_toArray, List.set_cons_zero, List.set_cons_succ, i64_w, i32_w]
                    rfl
                  refine pure_ (i := 14) (N := some 68) (v := undef) (a' := ?_) #[true, true, true, true, true, true, true, true, true, true, true, true, true, true, true, false] rfl rfl (any_of HT_.out (by kernel_rfl)) (fun _ _ _ h => h) (Or.inr ⟨by rfl, rfl⟩) ?_ ?_
                  rotate_left
                  · simp only [Act.put, List.setIfInBounds_toArray, List.set_cons_zero, List.set_cons_succ, i64_w, i32_w]
                    rfl
                  refine pure_ (i := 15) (N := some 69) (v := ?_) (a' := ?_) #[true, true, true, true, true, true, true, true, true, true, true, true, true, true, true, true] rfl rfl (any_of HT_.out (by kernel_rfl)) (fun _ _ _ h => h) (Or.inl ⟨by rfl, ?_⟩) ?_ ?_
                  rotate_left
                  · intro w'
                    go_simp
                    with_reducible rfl
                  rotate_left
                  · simp only [Act.put, List.setIfInBounds_toArray, List.set_cons_zero, List.set_cons_succ, i64_w, i32_w]
                    rfl
                  refine done_ (done_of HT_.out (by kernel_rfl)) ?_
                  try go_wp2
                  go_meet
                  case rel => exact ⟨_, (true), (by first | rfl | (simp; done) | (simp [*]; done)), H', ⟨by have := HJ2.out; have := HK2.out; first | omega | exact Nat.le_refl _⟩, ⟨by (with_reducible repeat (first | refine blk_drewN ?_ _ | refine blk_drew ?_ | refine blk_alloc ?_ _)); exact BK132.out⟩, ⟨by (with_reducible repeat (first | refine blk_drewN ?_ _ | refine blk_drew ?_ | refine blk_alloc ?_ _)); exact BK133.out⟩, ⟨by repeat (first | (with_reducible first | exact HB.out | apply below_alloc | apply pw_below_drewN | apply below_drew1 | refine below_set ?_ GE132.out | refine below_set ?_ GE133.out) | exact HB.out)⟩⟩
              case rest =>
                clear HC88
                try clear c1
                try clear p1
                try clear q1
                try clear hx1
                try clear p2
                try clear q2
                try clear c3
                try clear p3
                try clear q3
                try clear p4
                try clear q4
                try clear p5
                try clear q5
                try clear c6
                try clear p6
                try clear q6
                try clear qi6
                try clear c7
                try clear p7
                try clear q7
                try clear qi7
                try clear c8
                try clear p8
                try clear q8
                try clear qi8
                try clear c9
                try clear c12
                try clear c12b0
                try clear p13
                try clear q13
                try clear hx13
                try clear p16
                try clear q16
                try clear p23
                try clear q23
                try clear p30
                try clear q30
                try clear c36
                try clear p40
                try clear q40
                try clear p44
                try clear q44
                try clear p48
                try clear q48
                try clear p52
                try clear q52
                try clear p56
                try clear q56
                try clear p60
                try clear q60
                try clear c63
                try clear c64
                try clear c64b0
                try clear c64b1
                try clear p64
                try clear p65
                try clear q65
                try clear qi65
                try clear c66
                try clear c66b0
                try clear c67
                try clear c67b0
                try clear p68
                try clear q68
                try clear qi68
                try clear c69
                try clear c72
                try clear c72b0
                try clear c72b1
                try clear p73
                try clear q73
                try clear qi73
                try clear c74
                try clear c74b0
                try clear c75
                try clear c75b0
                try clear p76
                try clear q76
                try clear qi76
                try clear c77
                try clear c80
                try clear c80b0
                try clear c80b1
                try clear p81
                try clear q81
                try clear qi81
                try clear c82
                try clear c82b0
                try clear c83
                try clear c83b0
                try clear p84
                try clear q84
                try clear qi84
                try clear c85
                try clear c90
                try clear c90b0
                try clear c90b1
                try clear hcz70_0
                try clear hcz70_1
                try clear hcz70_2
                try clear hcz70_3
                try clear hcz70_4
                try clear hcz70_5
                try clear hcz71_0
                try clear hcz71_1
                try clear hcz71_2
                try clear hcz78_0
                try clear hcz78_1
                try clear hcz78_2
                try clear hcz78_3
                try clear hcz78_4
                try clear hcz78_5
                try clear hcz79_0
                try clear hcz79_1
                try clear hcz79_2
                try clear hcz86_0
                try clear hcz86_1
                try clear hcz86_2
                try clear hcz86_3
                try clear hcz86_4
                try clear hcz86_5
                try clear hcz87_0
                try clear hcz87_1
                try clear hcz87_2
                try clear hfz6_2
                try clear hfz6_3
                try clear hfz6_4
                try clear hfz6_5
                try clear hfz70_0
                try clear hfz70_1
                try clear hfz70_2
                try clear hfz70_3
                try clear hfz70_4
                try clear hfz70_5
                try clear hfz71_0
                try clear hfz71_1
                try clear hfz71_2
                try clear hfz78_0
                try clear hfz78_1
                try clear hfz78_2
                try clear hfz78_3
                try clear hfz78_4
                try clear hfz78_5
                try clear hfz79_0
                try clear hfz79_1
                try clear hfz79_2
                try clear hfz7_0
                try clear hfz7_1
                try clear hfz7_2
                try clear hfz7_3
                try clear hfz7_4
                try clear hfz7_5
                try clear hfz86_0
                try clear hfz86_1
                try clear hfz86_2
                try clear hfz86_3
                try clear hfz86_4
                try clear hfz86_5
                try clear hfz87_0
                try clear hfz87_1
                try clear hfz87_2
                try clear hx135_0
                try clear hx135_1
                try clear hx135_2
                try clear hx135_3
                try clear hx135_4
                try clear hx135_5
                try clear hx136_0
                try clear hx136_1
                try clear hx136_2
                try clear hx136_3
                try clear hx136_4
                try clear hx136_5
                try clear hx137_0
                try clear hx137_1
                try clear hx137_2
                try clear hx137_3
                try clear hx137_4
                try clear hx137_5
                try clear p135
                try clear p136
                try clear p137
                try clear p16
                try clear p2
                try clear p23
                try clear p30
                try clear p40
                try clear p44
                try clear p48
                try clear p52
                try clear p56
                try clear p60
                try clear p65
                try clear p68
                try clear p73
                try clear p76
                try clear p81
                try clear p84
                try clear q135
                try clear q136
                try clear q137
                try clear q16
                try clear q23
                try clear q30
                try clear q40
                try clear q44
                try clear q48
                try clear q52
                try clear q56
                try clear q60
                try clear q65
                try clear q68
                try clear q73
                try clear q76
                try clear q81
                try clear q84
                obtain ⟨kq, x69_87, rfl, HA, HJ87, BK132, BK133, HB⟩ := hcut
                cases kq with
                | zero => exact absurd HA.out (by simp [backreachref06_Right.j3])
                | succ kj87 =>
                  have H := HA.out
                  clear HA
                  simp only [backreachref06_Right.j3] at H
                  by_cases c95 : x69_87 = true
                  · subst c95
                    have H1 : (some 8) = some r := by rw [if_pos rfl] at H; exact H
                    clear H
                    have H := H1
                    clear H1
                    obtain rfl := Option.some.inj H
                    go_wp2
                    go_ret
                    exact ⟨by first | rfl | (simp [errW_none, errW_some] <;> rfl) | (simp [*, errW_none, errW_some] <;> rfl), by repeat (first | (with_reducible first | exact HB.out | apply below_alloc | apply pw_below_drewN | apply below_drew1 | refine below_set ?_ GE132.out | refine below_set ?_ GE133.out) | exact HB.out)⟩
                  · replace c95 := Bool.eq_false_iff.mpr c95
                    subst c95
                    have H1 : ((backreachref06_most.f a0_0 a0_1 a0_2 a0_3 a0_4 a0_5).bind fun t139 => (if a0_2 > t139 then (some 3) else (some 0))) = some r := by rw [if_neg (show ¬ (false = true) by decide)] at H; exact H
                    clear H
                    have H := H1
                    clear H1
                    replace H := Option.bind_eq_some_iff.mp H
                    obtain ⟨t139, A960, H⟩ := H
                    replace H : (if a0_2 > t139 then (some 3) else (some 0)) = some r := H
                    have A96 := Aside0.mk A960
                    clear A960
                    by_cases c97 : a0_2 > t139
                    · rw [if_pos c97] at H
                      have c97b0 : decide (t139 < a0_2) = true := decide_eq_true c97
                      clear c97
                      obtain rfl := Option.some.inj H
                      try go_wp2
                      have n0_ := Aside0.mk (blk_drew BK132.out)
                      have n1_ := Aside0.mk (blk_drew BK133.out)
                      have n2_ := Aside0.mk (below_drew1 HB.out)
                      clear BK132
                      clear BK133
                      clear HB
                      have BK132 := n0_
                      have BK133 := n1_
                      have HB := n2_
                      clear n0_ n1_ n2_
                      refine start_ (n := 5) (S := fun w' => w'.cell? ⟨gb132, 0, none⟩ = some (.int .i64 a0_0) ∧ w'.cell? ⟨gb132, 1, none⟩ = some (.int .i64 a0_1) ∧ w'.cell? ⟨gb132, 2, none⟩ = some (.int .u64 a0_2) ∧ w'.cell? ⟨gb132, 3, none⟩ = some (.int .i64 a0_3) ∧ w'.cell? ⟨gb132, 4, none⟩ = some (.int .i64 a0_4) ∧ w'.cell? ⟨gb132, 5, none⟩ = some (.int .i64 a0_5)) (ds := []) #[false, false, false, false, false] (by kernel_rfl) rfl rfl ⟨(blk_cell BK132.out 0).trans rfl, (blk_cell BK132.out 1).trans rfl, (blk_cell BK132.out 2).trans rfl, (blk_cell BK132.out 3).trans rfl, (blk_cell BK132.out 4).trans rfl, (blk_cell BK132.out 5).trans rfl⟩ (fun hHeld => ?_)
                      generalize wc.drew = w98 at BK132 BK133 HB hHeld ⊢
                      refine pure_ (i := 0) (N := some 70) (v := ?_) (a' := ?_) #[true, false, false, false, false] rfl rfl (by kernel_rfl) (fun _ _ _ h => h) (Or.inl ⟨by rfl, ?_⟩) ?_ ?_
                      rotate_left
                      · intro w'
                        go_simp
                        with_reducible rfl
                      rotate_left
                      · simp only [Act.put, List.setIfInBounds_toArray, List.set_cons_zero, List.set_cons_succ, i64_w, i32_w]
                        rfl
                      refine take_ (i := 1) (N := some 71) (v := ?_) (a' := ?_) #[true, true, false, false, false] rfl rfl (by kernel_rfl) (fun _ _ _ h => h) (Or.inl ⟨by rfl, ?_⟩) hHeld ?_ ?_
                      rotate_left
                      · rintro w' ⟨s0, s1, s2, s3, s4, s5⟩
                        go_simp
                        with_reducible rfl
                      rotate_left
                      · simp only [Act.put, List.setIfInBounds_toArray, List.set_cons_zero, List.set_cons_succ, i64_w, i32_w]
                        rfl
                      refine take_ (i := 2) (N := some 72) (v := ?_) (a' := ?_) #[true, true, true, false, false] rfl rfl (by kernel_rfl) (fun _ _ _ h => h) (Or.inl ⟨by rfl, ?_⟩) hHeld ?_ ?_
                      rotate_left
                      · rintro w' ⟨s0, s1, s2, s3, s4, s5⟩
                        go_simp
                        with_reducible rfl
                      rotate_left
                      · simp only [Act.put, List.setIfInBounds_toArray, List.set_cons_zero, List.set_cons_succ, i64_w, i32_w]
                        rfl
                      refine one_ (i := 3) (N := some 73) #[true, true, true, true, false] rfl rfl (by kernel_rfl) (by decide) (fun K hK => ?_)
                      refine goes_ Try.func37 (by kernel_rfl) rfl #[.agg #[.int .i64 a0_0, .int .i64 a0_1, .int .u64 a0_2, .int .i64 a0_3, .int .i64 a0_4, .int .i64 a0_5]] (by rfl) rfl rfl (by (try simp only [List.map_toArray, List.map_cons, List.map_nil]); first | done | rfl | (simp only [List.length_drop, List.length_take]; rfl)) ?_
                      with_reducible refine (backreachref06_most.calls a0_0 a0_1 a0_2 a0_3 a0_4 a0_5 t139 _ A96.out).mono ?_
                      rintro e w99 ⟨rfl, hb⟩
                      refine ⟨_, rfl, ?_⟩
                      have n0_ := Aside0.mk (blk_below (g := gb132) (o := .cells #[.int .i64 a0_0, .int .i64 a0_1, .int .u64 a0_2, .int .i64 a0_3, .int .i64 a0_4, .int .i64 a0_5] 32 (0, 0)) (by (with_reducible repeat (first | refine blk_drewN ?_ _ | refine blk_drew ?_ | refine blk_alloc ?_ _)); exact BK132.out) hb)
                      have n1_ := Aside0.mk (blk_below (g := gb133) (o := .cells #[.int .i64 x134000_2, .int .i64 x134001_2, .int .i64 x134002_2] 30 (0, 0)) (by (with_reducible repeat (first | refine blk_drewN ?_ _ | refine blk_drew ?_ | refine blk_alloc ?_ _)); exact BK133.out) hb)
                      have n2_ := Aside0.mk (below_step (by repeat (first | (with_reducible first | exact HB.out | apply below_alloc | apply pw_below_drewN | apply below_drew1 | refine below_set ?_ GE132.out | refine below_set ?_ GE133.out) | exact HB.out)) hb)
                      clear BK132
                      clear BK133
                      clear HB
                      have BK132 := n0_
                      have BK133 := n1_
                      have HB := n2_
                      clear n0_ n1_ n2_
                      (try clear hb)
                      (try clear hb2)
                      (try clear hk)
                      (try clear hi)
                      refine hK.out _ _ ⟨(blk_cell BK132.out 0).trans rfl, (blk_cell BK132.out 1).trans rfl, (blk_cell BK132.out 2).trans rfl, (blk_cell BK132.out 3).trans rfl, (blk_cell BK132.out 4).trans rfl, (blk_cell BK132.out 5).trans rfl⟩ (fun hHeld => ?_)
                      clear hK K
                      refine norm_ (a' := ?_) ?_ ?_
                      rotate_left
                      · show Act.put _ (some 73) _ = _
                        simp only [Act.put, List.setIfInBounds_toArray, List.set_cons_zero, List.set_cons_succ, i64_w, i32_w]
                        rfl
                      refine pure_ (i := 4) (N := some 74) (v := ?_) (a' := ?_) #[true, true, true, true, true] rfl rfl (by kernel_rfl) (fun _ _ _ h => h) (Or.inl ⟨by rfl, ?_⟩) ?_ ?_
                      rotate_left
                      · intro w'
                        go_simp
                        with_reducible rfl
                      rotate_left
                      · simp only [Act.put, List.setIfInBounds_toArray, List.set_cons_zero, List.set_cons_succ, i64_w, i32_w]
                        rfl
                      refine done_ (by kernel_rfl) ?_
                      try go_wp2
                      go_ret
                      exact ⟨by first | rfl | (simp [errW_none, errW_some] <;> rfl) | (simp [*, errW_none, errW_some] <;> rfl), by repeat (first | (with_reducible first | exact HB.out | apply below_alloc | apply pw_below_drewN | apply below_drew1 | refine below_set ?_ GE132.out | refine below_set ?_ GE133.out) | exact HB.out)⟩
                    · rw [if_neg c97] at H
                      have c97b0 : decide (t139 < a0_2) = false := decide_eq_false c97
                      clear c97
                      obtain rfl := Option.some.inj H
                      try go_wp2
                      have n0_ := Aside0.mk (blk_drew BK132.out)
                      have n1_ := Aside0.mk (blk_drew BK133.out)
                      have n2_ := Aside0.mk (below_drew1 HB.out)
                      clear BK132
                      clear BK133
                      clear HB
                      have BK132 := n0_
                      have BK133 := n1_
                      have HB := n2_
                      clear n0_ n1_ n2_
                      refine start_ (n := 5) (S := fun w' => w'.cell? ⟨gb132, 0, none⟩ = some (.int .i64 a0_0) ∧ w'.cell? ⟨gb132, 1, none⟩ = some (.int .i64 a0_1) ∧ w'.cell? ⟨gb132, 2, none⟩ = some (.int .u64 a0_2) ∧ w'.cell? ⟨gb132, 3, none⟩ = some (.int .i64 a0_3) ∧ w'.cell? ⟨gb132, 4, none⟩ = some (.int .i64 a0_4) ∧ w'.cell? ⟨gb132, 5, none⟩ = some (.int .i64 a0_5)) (ds := []) #[false, false, false, false, false] (by kernel_rfl) rfl rfl ⟨(blk_cell BK132.out 0).trans rfl, (blk_cell BK132.out 1).trans rfl, (blk_cell BK132.out 2).trans rfl, (blk_cell BK132.out 3).trans rfl, (blk_cell BK132.out 4).trans rfl, (blk_cell BK132.out 5).trans rfl⟩ (fun hHeld => ?_)
                      generalize wc.drew = w100 at BK132 BK133 HB hHeld ⊢
                      refine pure_ (i := 0) (N := some 70) (v := ?_) (a' := ?_) #[true, false, false, false, false] rfl rfl (by kernel_rfl) (fun _ _ _ h => h) (Or.inl ⟨by rfl, ?_⟩) ?_ ?_
                      rotate_left
                      · intro w'
                        go_simp
                        with_reducible rfl
                      rotate_left
                      · simp only [Act.put, List.setIfInBounds_toArray, List.set_cons_zero, List.set_cons_succ, i64_w, i32_w]
                        rfl
                      refine take_ (i := 1) (N := some 71) (v := ?_) (a' := ?_) #[true, true, false, false, false] rfl rfl (by kernel_rfl) (fun _ _ _ h => h) (Or.inl ⟨by rfl, ?_⟩) hHeld ?_ ?_
                      rotate_left
                      · rintro w' ⟨s0, s1, s2, s3, s4, s5⟩
                        go_simp
                        with_reducible rfl
                      rotate_left
                      · simp only [Act.put, List.setIfInBounds_toArray, List.set_cons_zero, List.set_cons_succ, i64_w, i32_w]
                        rfl
                      refine take_ (i := 2) (N := some 72) (v := ?_) (a' := ?_) #[true, true, true, false, false] rfl rfl (by kernel_rfl) (fun _ _ _ h => h) (Or.inl ⟨by rfl, ?_⟩) hHeld ?_ ?_
                      rotate_left
                      · rintro w' ⟨s0, s1, s2, s3, s4, s5⟩
                        go_simp
                        with_reducible rfl
                      rotate_left
                      · simp only [Act.put, List.setIfInBounds_toArray, List.set_cons_zero, List.set_cons_succ, i64_w, i32_w]
                        rfl
                      refine one_ (i := 3) (N := some 73) #[true, true, true, true, false] rfl rfl (by kernel_rfl) (by decide) (fun K hK => ?_)
                      refine goes_ Try.func37 (by kernel_rfl) rfl #[.agg #[.int .i64 a0_0, .int .i64 a0_1, .int .u64 a0_2, .int .i64 a0_3, .int .i64 a0_4, .int .i64 a0_5]] (by rfl) rfl rfl (by (try simp only [List.map_toArray, List.map_cons, List.map_nil]); first | done | rfl | (simp only [List.length_drop, List.length_take]; rfl)) ?_
                      with_reducible refine (backreachref06_most.calls a0_0 a0_1 a0_2 a0_3 a0_4 a0_5 t139 _ A96.out).mono ?_
                      rintro e w101 ⟨rfl, hb⟩
                      refine ⟨_, rfl, ?_⟩
                      have n0_ := Aside0.mk (blk_below (g := gb132) (o := .cells #[.int .i64 a0_0, .int .i64 a0_1, .int .u64 a0_2, .int .i64 a0_3, .int .i64 a0_4, .int .i64 a0_5] 32 (0, 0)) (by (with_reducible repeat (first | refine blk_drewN ?_ _ | refine blk_drew ?_ | refine blk_alloc ?_ _)); exact BK132.out) hb)
                      have n1_ := Aside0.mk (blk_below (g := gb133) (o := .cells #[.int .i64 x134000_2, .int .i64 x134001_2, .int .i64 x134002_2] 30 (0, 0)) (by (with_reducible repeat (first | refine blk_drewN ?_ _ | refine blk_drew ?_ | refine blk_alloc ?_ _)); exact BK133.out) hb)
                      have n2_ := Aside0.mk (below_step (by repeat (first | (with_reducible first | exact HB.out | apply below_alloc | apply pw_below_drewN | apply below_drew1 | refine below_set ?_ GE132.out | refine below_set ?_ GE133.out) | exact HB.out)) hb)
                      clear BK132
                      clear BK133
                      clear HB
                      have BK132 := n0_
                      have BK133 := n1_
                      have HB := n2_
                      clear n0_ n1_ n2_
                      (try clear hb)
                      (try clear hb2)
                      (try clear hk)
                      (try clear hi)
                      refine hK.out _ _ ⟨(blk_cell BK132.out 0).trans rfl, (blk_cell BK132.out 1).trans rfl, (blk_cell BK132.out 2).trans rfl, (blk_cell BK132.out 3).trans rfl, (blk_cell BK132.out 4).trans rfl, (blk_cell BK132.out 5).trans rfl⟩ (fun hHeld => ?_)
                      clear hK K
                      refine norm_ (a' := ?_) ?_ ?_
                      rotate_left
                      · show Act.put _ (some 73) _ = _
                        simp only [Act.put, List.setIfInBounds_toArray, List.set_cons_zero, List.set_cons_succ, i64_w, i32_w]
                        rfl
                      refine pure_ (i := 4) (N := some 74) (v := ?_) (a' := ?_) #[true, true, true, true, true] rfl rfl (by kernel_rfl) (fun _ _ _ h => h) (Or.inl ⟨by rfl, ?_⟩) ?_ ?_
                      rotate_left
                      · intro w'
                        go_simp
                        with_reducible rfl
                      rotate_left
                      · simp only [Act.put, List.setIfInBounds_toArray, List.set_cons_zero, List.set_cons_succ, i64_w, i32_w]
                        rfl
                      refine done_ (by kernel_rfl) ?_
                      try go_wp2
                      go_ret
                      exact ⟨by first | rfl | (simp [errW_none, errW_some] <;> rfl) | (simp [*, errW_none, errW_some] <;> rfl), by repeat (first | (with_reducible first | exact HB.out | apply below_alloc | apply pw_below_drewN | apply below_drew1 | refine below_set ?_ GE132.out | refine below_set ?_ GE133.out) | exact HB.out)⟩

end Go.Proofs.Ytkindfbbklkjdaa.P
