/- What Go functions compute, and their walks: written by a program of this session (a turned copy of the kit's print) out of the translation. -/
import Derived.Test.YtkindfbbklkjdaaPx0
import Derived.Test.YtkindfbbklkjdaaPx3
import Derived.Test.YtkindfbbklkjdaaPx5
namespace Go.Proofs.Ytkindfbbklkjdaa.P
open Go.RowKit Go.Proofs.YtkindfbbklkjdaaW.PrintWords Go.Proofs.YtkindfbbklkjdaaW.PrintLast Go.Proofs.YtkindfbbklkjdaaW.PrintMore
attribute [local go_sem] max2_int min2_int max_two min_two max_three min_three max_four min_four   -- for this text's walks alone
set_option linter.unusedVariables false
set_option linter.unusedSimpArgs false

/-! ### term_wide: function 34 -/
def term_wide.j0 : Nat → Int → Bool → Int → Int → Int → Int → Int → Int → Int → Int → Int → Option (Bool)
  | 0, _, _, _, _, _, _, _, _, _, _, _ => none
  | k + 1, x6, x44, x110000, x110001, x110002, x110003, x110004, x110005, x111000, x111001, x111002 => if x44 = true then (if x110001 = 1 then (if x111000 = 0 then (some false) else (some (x111000 == x111001))) else (some false)) else (if x6 = 22 then (if x111000 = 1 then (if x111001 = 0 then (some false) else (if x111001 = x111002 then (some (x110001 == x111001)) else (some false))) else (some false)) else (if x6 = 23 then (if x110001 = 8 then (if x111000 = 0 then (some (x111001 == 64)) else (some false)) else (some false)) else (if x6 = 24 then (if x110001 = 0 then (if x111000 = 0 then (if x111001 = 64 then (some (x111002 == 8)) else (some false)) else (some false)) else (some false)) else ((term_Kids.f k x110000).bind fun t111 => (if t111 = 0 then ((term_leaf.f x110000 x110001 x110002 x110003 x110004 x110005).bind fun t112 => (some t112)) else (if x111000 = 0 then (some false) else (if x111000 = x111001 then (some (x110001 == x111000)) else (some false))))))))
def term_wide.f (k : Nat) (a0_0 : Int) (a0_1 : Int) (a0_2 : Int) (a0_3 : Int) (a0_4 : Int) (a0_5 : Int) (a1_0 : Int) (a1_1 : Int) (a1_2 : Int) : Option (Bool) := if a0_0 = 5 then (if a1_0 = 0 then (some false) else (some (a0_1 == a1_0))) else (if a0_0 = 6 then (if a0_1 = 64 then (if a1_0 = 1 then (some true) else (some (a1_0 == 8))) else (some false)) else (if a0_0 = 7 then (if a0_1 = 8 then (some (a1_0 == 64)) else (some false)) else (if a0_0 = 19 then (term_wide.j0 k a0_0 (a0_0 == 19) a0_0 a0_1 a0_2 a0_3 a0_4 a0_5 a1_0 a1_1 a1_2) else (if a0_0 = 20 then (term_wide.j0 k a0_0 (a0_0 == 20) a0_0 a0_1 a0_2 a0_3 a0_4 a0_5 a1_0 a1_1 a1_2) else (term_wide.j0 k a0_0 (a0_0 == 21) a0_0 a0_1 a0_2 a0_3 a0_4 a0_5 a1_0 a1_1 a1_2)))))
theorem term_wide.mono_l : ∀ k, (∀ y0 y1 y2 y3 y4 y5 y6 y7 y8 y9 y10, LeO (term_wide.j0 k y0 y1 y2 y3 y4 y5 y6 y7 y8 y9 y10) (term_wide.j0 (k + 1) y0 y1 y2 y3 y4 y5 y6 y7 y8 y9 y10))
  | 0 => fun _ _ _ _ _ _ _ _ _ _ _ r h => by simp [term_wide.j0] at h
  | k + 1 => by
    have ih0 := term_wide.mono_l k
    · intro y0 y1 y2 y3 y4 y5 y6 y7 y8 y9 y10
      unfold term_wide.j0
      repeat' first
      | (with_reducible exact ih0 _ _ _ _ _ _ _ _ _ _ _)
      | (with_reducible exact term_Kids.mono _ _)
      | (with_reducible exact LeO.refl _)
      | (with_reducible exact LeO.none _)
      | (with_reducible refine LeO.ite ?_ ?_)
      | (with_reducible refine LeO.bind ?_ (fun _ => ?_))
      | exact ih0 _ _ _ _ _ _ _ _ _ _ _
      | exact term_Kids.mono _ _
      | exact LeO.none _
      | refine LeO.ite ?_ ?_
      | refine LeO.bind ?_ (fun _ => ?_)
theorem term_wide.mono : ∀ a0 a1 a2 a3 a4 a5 a6 a7 a8 k, LeO (term_wide.f k a0 a1 a2 a3 a4 a5 a6 a7 a8) (term_wide.f (k + 1) a0 a1 a2 a3 a4 a5 a6 a7 a8) := by
  intro a0 a1 a2 a3 a4 a5 a6 a7 a8 k
  have ih0 := term_wide.mono_l k
  unfold term_wide.f
  repeat' first
      | (with_reducible exact ih0 _ _ _ _ _ _ _ _ _ _ _)
      | (with_reducible exact term_Kids.mono _ _)
      | (with_reducible exact LeO.refl _)
      | (with_reducible exact LeO.none _)
      | (with_reducible refine LeO.ite ?_ ?_)
      | (with_reducible refine LeO.bind ?_ (fun _ => ?_))
      | exact ih0 _ _ _ _ _ _ _ _ _ _ _
      | exact term_Kids.mono _ _
      | exact LeO.none _
      | refine LeO.ite ?_ ?_
      | refine LeO.bind ?_ (fun _ => ?_)
set_option maxHeartbeats 8000000 in
set_option maxRecDepth 100000 in
theorem term_wide.calls (k : Nat) (a0_0 : Int) (a0_1 : Int) (a0_2 : Int) (a0_3 : Int) (a0_4 : Int) (a0_5 : Int) (a1_0 : Int) (a1_1 : Int) (a1_2 : Int) (r : Bool) (w : World) (h : term_wide.f k a0_0 a0_1 a0_2 a0_3 a0_4 a0_5 a1_0 a1_1 a1_2 = some r) :
    Calls Try.prog 34 #[.agg #[.int .i64 a0_0, .int .i64 a0_1, .int .u64 a0_2, .int .i64 a0_3, .int .i64 a0_4, .int .i64 a0_5], .agg #[.int .i64 a1_0, .int .i64 a1_1, .int .i64 a1_2]] w fun e w' => e = .returned (.bool r) ∧ Below w.heap.size w w' := by
  have hu32 := Try.underlying32
  have hu30 := Try.underlying30
  have HB := Aside0.mk (Below.refl w.heap.size w)
  have H : (if a0_0 = 5 then (if a1_0 = 0 then (some false) else (some (a0_1 == a1_0))) else (if a0_0 = 6 then (if a0_1 = 64 then (if a1_0 = 1 then (some true) else (some (a1_0 == 8))) else (some false)) else (if a0_0 = 7 then (if a0_1 = 8 then (some (a1_0 == 64)) else (some false)) else (if a0_0 = 19 then (term_wide.j0 k a0_0 (a0_0 == 19) a0_0 a0_1 a0_2 a0_3 a0_4 a0_5 a1_0 a1_1 a1_2) else (if a0_0 = 20 then (term_wide.j0 k a0_0 (a0_0 == 20) a0_0 a0_1 a0_2 a0_3 a0_4 a0_5 a1_0 a1_1 a1_2) else (term_wide.j0 k a0_0 (a0_0 == 21) a0_0 a0_1 a0_2 a0_3 a0_4 a0_5 a1_0 a1_1 a1_2)))))) = some r := h
  clear h
  by_cases c3 : a0_0 = 5
  · rw [if_pos c3] at H
    have c3b0 : (a0_0 == 5) = true := beq_iff_eq.mpr c3
    have c3b1 : (a0_0 != 5) = false := bne_eq_false_iff_eq.mpr c3
    clear c3
    by_cases c4 : a1_0 = 0
    · rw [if_pos c4] at H
      have c4b0 : (a1_0 == 0) = true := beq_iff_eq.mpr c4
      have c4b1 : (a1_0 != 0) = false := bne_eq_false_iff_eq.mpr c4
      clear c4
      obtain rfl := Option.some.inj H
      go_enter Try.func34, Try.ntmps34
      go_wp2_with (first | ((with_reducible refine gate_dst (N := 2) rfl ?_); refine box_event ?hg (N := 2) ?hd (cs := #[.int .i64 a0_0, .int .i64 a0_1, .int .u64 a0_2, .int .i64 a0_3, .int .i64 a0_4, .int .i64 a0_5]) (t := 32) ?hr ?_; (case hd => rfl); (case hg => rfl); (case hr => first | (go_simp; done) | (go_simp; rfl)); intro gb109 hg w5 hbox hb; have n0_ := Aside0.mk (below_step (by repeat (first | (with_reducible first | exact HB.out | apply below_alloc | apply pw_below_drewN | apply below_drew1) | exact HB.out)) hb); have n1_ := Aside0.mk (hbox); have n2_ := Aside0.mk ((by rw [hg]; exact (below_size (by repeat (first | (with_reducible first | exact HB.out | apply below_alloc | apply pw_below_drewN | apply below_drew1) | exact HB.out))) : w.heap.size ≤ gb109)); have n3_ := Aside0.mk ((by rw [hg]; exact (below_size (by repeat (first | (with_reducible first | exact HB.out | apply below_alloc | apply pw_below_drewN | apply below_drew1) | exact HB.out))) : w.heap.size ≤ gb109)); clear HB; have HB := n0_; have BK109 := n1_; have GW109 := n2_; have GE109 := n3_; clear n0_ n1_ n2_ n3_; clear hb hbox hg) | ((with_reducible refine gate_dst (N := 3) rfl ?_); refine box_event ?hg (N := 3) ?hd (cs := #[.int .i64 a1_0, .int .i64 a1_1, .int .i64 a1_2]) (t := 30) ?hr ?_; (case hd => rfl); (case hg => rfl); (case hr => first | (go_simp; done) | (go_simp; rfl)); intro gb110 hg w6 hbox hb; have n0_ := Aside0.mk (blk_below (g := gb109) (o := .cells #[.int .i64 a0_0, .int .i64 a0_1, .int .u64 a0_2, .int .i64 a0_3, .int .i64 a0_4, .int .i64 a0_5] 32 (0, 0)) (by (with_reducible repeat (first | refine blk_drewN ?_ _ | refine blk_drew ?_ | refine blk_alloc ?_ _)); exact BK109.out) hb); have n1_ := Aside0.mk (below_step (by repeat (first | (with_reducible first | exact HB.out | apply below_alloc | apply pw_below_drewN | apply below_drew1 | refine below_set ?_ GE109.out) | exact HB.out)) hb); have n2_ := Aside0.mk (hbox); have n3_ := Aside0.mk ((by rw [hg]; exact (below_size (by repeat (first | (with_reducible first | exact HB.out | apply below_alloc | apply pw_below_drewN | apply below_drew1 | refine below_set ?_ GE109.out) | exact HB.out))) : w.heap.size ≤ gb110)); have n4_ := Aside0.mk ((by rw [hg]; exact (below_size (by repeat (first | (with_reducible first | exact HB.out | apply below_alloc | apply pw_below_drewN | apply below_drew1 | refine below_set ?_ GE109.out) | exact HB.out))) : w.heap.size ≤ gb110)); have n5_ := Aside0.mk ((by rw [hg]; exact Nat.ne_of_lt (blk_lt (g := gb109) (o := .cells #[.int .i64 a0_0, .int .i64 a0_1, .int .u64 a0_2, .int .i64 a0_3, .int .i64 a0_4, .int .i64 a0_5] 32 (0, 0)) (by (with_reducible repeat (first | refine blk_drewN ?_ _ | refine blk_drew ?_ | refine blk_alloc ?_ _)); exact BK109.out)) : gb109 ≠ gb110)); have n6_ := Aside0.mk ((by rw [hg]; exact Nat.ne_of_gt (blk_lt (g := gb109) (o := .cells #[.int .i64 a0_0, .int .i64 a0_1, .int .u64 a0_2, .int .i64 a0_3, .int .i64 a0_4, .int .i64 a0_5] 32 (0, 0)) (by (with_reducible repeat (first | refine blk_drewN ?_ _ | refine blk_drew ?_ | refine blk_alloc ?_ _)); exact BK109.out)) : gb110 ≠ gb109)); clear BK109; clear HB; have BK109 := n0_; have HB := n1_; have BK110 := n2_; have GW110 := n3_; have GE110 := n4_; have NB109_110 := n5_; have NB110_109 := n6_; clear n0_ n1_ n2_ n3_ n4_ n5_ n6_; clear hb hbox hg; have hnb7 := NB109_110.out; have hnc7 := NB110_109.out; have hcz8_0 : w6.cell? ⟨gb109, 0, none⟩ = some (.int .i64 a0_0) := (blk_cell BK109.out 0).trans rfl; have hcz8_1 : w6.cell? ⟨gb109, 1, none⟩ = some (.int .i64 a0_1) := (blk_cell BK109.out 1).trans rfl; have hcz8_2 : w6.cell? ⟨gb109, 2, none⟩ = some (.int .u64 a0_2) := (blk_cell BK109.out 2).trans rfl; have hcz8_3 : w6.cell? ⟨gb109, 3, none⟩ = some (.int .i64 a0_3) := (blk_cell BK109.out 3).trans rfl; have hcz8_4 : w6.cell? ⟨gb109, 4, none⟩ = some (.int .i64 a0_4) := (blk_cell BK109.out 4).trans rfl; have hcz8_5 : w6.cell? ⟨gb109, 5, none⟩ = some (.int .i64 a0_5) := (blk_cell BK109.out 5).trans rfl; have hfz8_0 := blk_frozen BK109.out 0; have hfz8_1 := blk_frozen BK109.out 1; have hfz8_2 := blk_frozen BK109.out 2; have hfz8_3 := blk_frozen BK109.out 3; have hfz8_4 := blk_frozen BK109.out 4; have hfz8_5 := blk_frozen BK109.out 5; have hcz9_0 : w6.cell? ⟨gb110, 0, none⟩ = some (.int .i64 a1_0) := (blk_cell BK110.out 0).trans rfl; have hcz9_1 : w6.cell? ⟨gb110, 1, none⟩ = some (.int .i64 a1_1) := (blk_cell BK110.out 1).trans rfl; have hcz9_2 : w6.cell? ⟨gb110, 2, none⟩ = some (.int .i64 a1_2) := (blk_cell BK110.out 2).trans rfl; have hfz9_0 := blk_frozen BK110.out 0; have hfz9_1 := blk_frozen BK110.out 1; have hfz9_2 := blk_frozen BK110.out 2))
      go_ret
      exact ⟨by first | rfl | (simp [errW_none, errW_some] <;> rfl) | (simp [*, errW_none, errW_some] <;> rfl), by repeat (first | (with_reducible first | exact HB.out | apply below_alloc | apply pw_below_drewN | apply below_drew1 | refine below_set ?_ GE109.out | refine below_set ?_ GE110.out) | exact HB.out)⟩
    · rw [if_neg c4] at H
      have c4b0 : (a1_0 == 0) = false := beq_eq_false_iff_ne.mpr c4
      have c4b1 : (a1_0 != 0) = true := bne_iff_ne.mpr c4
      obtain rfl := Option.some.inj H
      go_enter Try.func34, Try.ntmps34
      go_wp2_with (first | ((with_reducible refine gate_dst (N := 2) rfl ?_); refine box_event ?hg (N := 2) ?hd (cs := #[.int .i64 a0_0, .int .i64 a0_1, .int .u64 a0_2, .int .i64 a0_3, .int .i64 a0_4, .int .i64 a0_5]) (t := 32) ?hr ?_; (case hd => rfl); (case hg => rfl); (case hr => first | (go_simp; done) | (go_simp; rfl)); intro gb109 hg w10 hbox hb; have n0_ := Aside0.mk (below_step (by repeat (first | (with_reducible first | exact HB.out | apply below_alloc | apply pw_below_drewN | apply below_drew1) | exact HB.out)) hb); have n1_ := Aside0.mk (hbox); have n2_ := Aside0.mk ((by rw [hg]; exact (below_size (by repeat (first | (with_reducible first | exact HB.out | apply below_alloc | apply pw_below_drewN | apply below_drew1) | exact HB.out))) : w.heap.size ≤ gb109)); have n3_ := Aside0.mk ((by rw [hg]; exact (below_size (by repeat (first | (with_reducible first | exact HB.out | apply below_alloc | apply pw_below_drewN | apply below_drew1) | exact HB.out))) : w.heap.size ≤ gb109)); clear HB; have HB := n0_; have BK109 := n1_; have GW109 := n2_; have GE109 := n3_; clear n0_ n1_ n2_ n3_; clear hb hbox hg) | ((with_reducible refine gate_dst (N := 3) rfl ?_); refine box_event ?hg (N := 3) ?hd (cs := #[.int .i64 a1_0, .int .i64 a1_1, .int .i64 a1_2]) (t := 30) ?hr ?_; (case hd => rfl); (case hg => rfl); (case hr => first | (go_simp; done) | (go_simp; rfl)); intro gb110 hg w11 hbox hb; have n0_ := Aside0.mk (blk_below (g := gb109) (o := .cells #[.int .i64 a0_0, .int .i64 a0_1, .int .u64 a0_2, .int .i64 a0_3, .int .i64 a0_4, .int .i64 a0_5] 32 (0, 0)) (by (with_reducible repeat (first | refine blk_drewN ?_ _ | refine blk_drew ?_ | refine blk_alloc ?_ _)); exact BK109.out) hb); have n1_ := Aside0.mk (below_step (by repeat (first | (with_reducible first | exact HB.out | apply below_alloc | apply pw_below_drewN | apply below_drew1 | refine below_set ?_ GE109.out) | exact HB.out)) hb); have n2_ := Aside0.mk (hbox); have n3_ := Aside0.mk ((by rw [hg]; exact (below_size (by repeat (first | (with_reducible first | exact HB.out | apply below_alloc | apply pw_below_drewN | apply below_drew1 | refine below_set ?_ GE109.out) | exact HB.out))) : w.heap.size ≤ gb110)); have n4_ := Aside0.mk ((by rw [hg]; exact (below_size (by repeat (first | (with_reducible first | exact HB.out | apply below_alloc | apply pw_below_drewN | apply below_drew1 | refine below_set ?_ GE109.out) | exact HB.out))) : w.heap.size ≤ gb110)); have n5_ := Aside0.mk ((by rw [hg]; exact Nat.ne_of_lt (blk_lt (g := gb109) (o := .cells #[.int .i64 a0_0, .int .i64 a0_1, .int .u64 a0_2, .int .i64 a0_3, .int .i64 a0_4, .int .i64 a0_5] 32 (0, 0)) (by (with_reducible repeat (first | refine blk_drewN ?_ _ | refine blk_drew ?_ | refine blk_alloc ?_ _)); exact BK109.out)) : gb109 ≠ gb110)); have n6_ := Aside0.mk ((by rw [hg]; exact Nat.ne_of_gt (blk_lt (g := gb109) (o := .cells #[.int .i64 a0_0, .int .i64 a0_1, .int .u64 a0_2, .int .i64 a0_3, .int .i64 a0_4, .int .i64 a0_5] 32 (0, 0)) (by (with_reducible repeat (first | refine blk_drewN ?_ _ | refine blk_drew ?_ | refine blk_alloc ?_ _)); exact BK109.out)) : gb110 ≠ gb109)); clear BK109; clear HB; have BK109 := n0_; have HB := n1_; have BK110 := n2_; have GW110 := n3_; have GE110 := n4_; have NB109_110 := n5_; have NB110_109 := n6_; clear n0_ n1_ n2_ n3_ n4_ n5_ n6_; clear hb hbox hg; have hnb12 := NB109_110.out; have hnc12 := NB110_109.out; have hcz13_0 : w11.cell? ⟨gb109, 0, none⟩ = some (.int .i64 a0_0) := (blk_cell BK109.out 0).trans rfl; have hcz13_1 : w11.cell? ⟨gb109, 1, none⟩ = some (.int .i64 a0_1) := (blk_cell BK109.out 1).trans rfl; have hcz13_2 : w11.cell? ⟨gb109, 2, none⟩ = some (.int .u64 a0_2) := (blk_cell BK109.out 2).trans rfl; have hcz13_3 : w11.cell? ⟨gb109, 3, none⟩ = some (.int .i64 a0_3) := (blk_cell BK109.out 3).trans rfl; have hcz13_4 : w11.cell? ⟨gb109, 4, none⟩ = some (.int .i64 a0_4) := (blk_cell BK109.out 4).trans rfl; have hcz13_5 : w11.cell? ⟨gb109, 5, none⟩ = some (.int .i64 a0_5) := (blk_cell BK109.out 5).trans rfl; have hfz13_0 := blk_frozen BK109.out 0; have hfz13_1 := blk_frozen BK109.out 1; have hfz13_2 := blk_frozen BK109.out 2; have hfz13_3 := blk_frozen BK109.out 3; have hfz13_4 := blk_frozen BK109.out 4; have hfz13_5 := blk_frozen BK109.out 5; have hcz14_0 : w11.cell? ⟨gb110, 0, none⟩ = some (.int .i64 a1_0) := (blk_cell BK110.out 0).trans rfl; have hcz14_1 : w11.cell? ⟨gb110, 1, none⟩ = some (.int .i64 a1_1) := (blk_cell BK110.out 1).trans rfl; have hcz14_2 : w11.cell? ⟨gb110, 2, none⟩ = some (.int .i64 a1_2) := (blk_cell BK110.out 2).trans rfl; have hfz14_0 := blk_frozen BK110.out 0; have hfz14_1 := blk_frozen BK110.out 1; have hfz14_2 := blk_frozen BK110.out 2))
      go_ret
      exact ⟨by first | rfl | (simp [errW_none, errW_some] <;> rfl) | (simp [*, errW_none, errW_some] <;> rfl), by repeat (first | (with_reducible first | exact HB.out | apply below_alloc | apply pw_below_drewN | apply below_drew1 | refine below_set ?_ GE109.out | refine below_set ?_ GE110.out) | exact HB.out)⟩
  · rw [if_neg c3] at H
    have c3b0 : (a0_0 == 5) = false := beq_eq_false_iff_ne.mpr c3
    have c3b1 : (a0_0 != 5) = true := bne_iff_ne.mpr c3
    by_cases c15 : a0_0 = 6
    · rw [if_pos c15] at H
      have c15b0 : (a0_0 == 6) = true := beq_iff_eq.mpr c15
      have c15b1 : (a0_0 != 6) = false := bne_eq_false_iff_eq.mpr c15
      clear c15
      by_cases c16 : a0_1 = 64
      · rw [if_pos c16] at H
        have c16b0 : (a0_1 == 64) = true := beq_iff_eq.mpr c16
        have c16b1 : (a0_1 != 64) = false := bne_eq_false_iff_eq.mpr c16
        clear c16
        by_cases c17 : a1_0 = 1
        · rw [if_pos c17] at H
          have c17b0 : (a1_0 == 1) = true := beq_iff_eq.mpr c17
          have c17b1 : (a1_0 != 1) = false := bne_eq_false_iff_eq.mpr c17
          clear c17
          obtain rfl := Option.some.inj H
          go_enter Try.func34, Try.ntmps34
          go_wp2_with (first | ((with_reducible refine gate_dst (N := 2) rfl ?_); refine box_event ?hg (N := 2) ?hd (cs := #[.int .i64 a0_0, .int .i64 a0_1, .int .u64 a0_2, .int .i64 a0_3, .int .i64 a0_4, .int .i64 a0_5]) (t := 32) ?hr ?_; (case hd => rfl); (case hg => rfl); (case hr => first | (go_simp; done) | (go_simp; rfl)); intro gb109 hg w18 hbox hb; have n0_ := Aside0.mk (below_step (by repeat (first | (with_reducible first | exact HB.out | apply below_alloc | apply pw_below_drewN | apply below_drew1) | exact HB.out)) hb); have n1_ := Aside0.mk (hbox); have n2_ := Aside0.mk ((by rw [hg]; exact (below_size (by repeat (first | (with_reducible first | exact HB.out | apply below_alloc | apply pw_below_drewN | apply below_drew1) | exact HB.out))) : w.heap.size ≤ gb109)); have n3_ := Aside0.mk ((by rw [hg]; exact (below_size (by repeat (first | (with_reducible first | exact HB.out | apply below_alloc | apply pw_below_drewN | apply below_drew1) | exact HB.out))) : w.heap.size ≤ gb109)); clear HB; have HB := n0_; have BK109 := n1_; have GW109 := n2_; have GE109 := n3_; clear n0_ n1_ n2_ n3_; clear hb hbox hg) | ((with_reducible refine gate_dst (N := 3) rfl ?_); refine box_event ?hg (N := 3) ?hd (cs := #[.int .i64 a1_0, .int .i64 a1_1, .int .i64 a1_2]) (t := 30) ?hr ?_; (case hd => rfl); (case hg => rfl); (case hr => first | (go_simp; done) | (go_simp; rfl)); intro gb110 hg w19 hbox hb; have n0_ := Aside0.mk (blk_below (g := gb109) (o := .cells #[.int .i64 a0_0, .int .i64 a0_1, .int .u64 a0_2, .int .i64 a0_3, .int .i64 a0_4, .int .i64 a0_5] 32 (0, 0)) (by (with_reducible repeat (first | refine blk_drewN ?_ _ | refine blk_drew ?_ | refine blk_alloc ?_ _)); exact BK109.out) hb); have n1_ := Aside0.mk (below_step (by repeat (first | (with_reducible first | exact HB.out | apply below_alloc | apply pw_below_drewN | apply below_drew1 | refine below_set ?_ GE109.out) | exact HB.out)) hb); have n2_ := Aside0.mk (hbox); have n3_ := Aside0.mk ((by rw [hg]; exact (below_size (by repeat (first | (with_reducible first | exact HB.out | apply below_alloc | apply pw_below_drewN | apply below_drew1 | refine below_set ?_ GE109.out) | exact HB.out))) : w.heap.size ≤ gb110)); have n4_ := Aside0.mk ((by rw [hg]; exact (below_size (by repeat (first | (with_reducible first | exact HB.out | apply below_alloc | apply pw_below_drewN | apply below_drew1 | refine below_set ?_ GE109.out) | exact HB.out))) : w.heap.size ≤ gb110)); have n5_ := Aside0.mk ((by rw [hg]; exact Nat.ne_of_lt (blk_lt (g := gb109) (o := .cells #[.int .i64 a0_0, .int .i64 a0_1, .int .u64 a0_2, .int .i64 a0_3, .int .i64 a0_4, .int .i64 a0_5] 32 (0, 0)) (by (with_reducible repeat (first | refine blk_drewN ?_ _ | refine blk_drew ?_ | refine blk_alloc ?_ _)); exact BK109.out)) : gb109 ≠ gb110)); have n6_ := Aside0.mk ((by rw [hg]; exact Nat.ne_of_gt (blk_lt (g := gb109) (o := .cells #[.int .i64 a0_0, .int .i64 a0_1, .int .u64 a0_2, .int .i64 a0_3, .int .i64 a0_4, .int .i64 a0_5] 32 (0, 0)) (by (with_reducible repeat (first | refine blk_drewN ?_ _ | refine blk_drew ?_ | refine blk_alloc ?_ _)); exact BK109.out)) : gb110 ≠ gb109)); clear BK109; clear HB; have BK109 := n0_; have HB := n1_; have BK110 := n2_; have GW110 := n3_; have GE110 := n4_; have NB109_110 := n5_; have NB110_109 := n6_; clear n0_ n1_ n2_ n3_ n4_ n5_ n6_; clear hb hbox hg; have hnb20 := NB109_110.out; have hnc20 := NB110_109.out; have hcz21_0 : w19.cell? ⟨gb109, 0, none⟩ = some (.int .i64 a0_0) := (blk_cell BK109.out 0).trans rfl; have hcz21_1 : w19.cell? ⟨gb109, 1, none⟩ = some (.int .i64 a0_1) := (blk_cell BK109.out 1).trans rfl; have hcz21_2 : w19.cell? ⟨gb109, 2, none⟩ = some (.int .u64 a0_2) := (blk_cell BK109.out 2).trans rfl; have hcz21_3 : w19.cell? ⟨gb109, 3, none⟩ = some (.int .i64 a0_3) := (blk_cell BK109.out 3).trans rfl; have hcz21_4 : w19.cell? ⟨gb109, 4, none⟩ = some (.int .i64 a0_4) := (blk_cell BK109.out 4).trans rfl; have hcz21_5 : w19.cell? ⟨gb109, 5, none⟩ = some (.int .i64 a0_5) := (blk_cell BK109.out 5).trans rfl; have hfz21_0 := blk_frozen BK109.out 0; have hfz21_1 := blk_frozen BK109.out 1; have hfz21_2 := blk_frozen BK109.out 2; have hfz21_3 := blk_frozen BK109.out 3; have hfz21_4 := blk_frozen BK109.out 4; have hfz21_5 := blk_frozen BK109.out 5; have hcz22_0 : w19.cell? ⟨gb110, 0, none⟩ = some (.int .i64 a1_0) := (blk_cell BK110.out 0).trans rfl; have hcz22_1 : w19.cell? ⟨gb110, 1, none⟩ = some (.int .i64 a1_1) := (blk_cell BK110.out 1).trans rfl; have hcz22_2 : w19.cell? ⟨gb110, 2, none⟩ = some (.int .i64 a1_2) := (blk_cell BK110.out 2).trans rfl; have hfz22_0 := blk_frozen BK110.out 0; have hfz22_1 := blk_frozen BK110.out 1; have hfz22_2 := blk_frozen BK110.out 2))
          go_ret
          exact ⟨by first | rfl | (simp [errW_none, errW_some] <;> rfl) | (simp [*, errW_none, errW_some] <;> rfl), by repeat (first | (with_reducible first | exact HB.out | apply below_alloc | apply pw_below_drewN | apply below_drew1 | refine below_set ?_ GE109.out | refine below_set ?_ GE110.out) | exact HB.out)⟩
        · rw [if_neg c17] at H
          have c17b0 : (a1_0 == 1) = false := beq_eq_false_iff_ne.mpr c17
          have c17b1 : (a1_0 != 1) = true := bne_iff_ne.mpr c17
          obtain rfl := Option.some.inj H
          go_enter Try.func34, Try.ntmps34
          go_wp2_with (first | ((with_reducible refine gate_dst (N := 2) rfl ?_); refine box_event ?hg (N := 2) ?hd (cs := #[.int .i64 a0_0, .int .i64 a0_1, .int .u64 a0_2, .int .i64 a0_3, .int .i64 a0_4, .int .i64 a0_5]) (t := 32) ?hr ?_; (case hd => rfl); (case hg => rfl); (case hr => first | (go_simp; done) | (go_simp; rfl)); intro gb109 hg w23 hbox hb; have n0_ := Aside0.mk (below_step (by repeat (first | (with_reducible first | exact HB.out | apply below_alloc | apply pw_below_drewN | apply below_drew1) | exact HB.out)) hb); have n1_ := Aside0.mk (hbox); have n2_ := Aside0.mk ((by rw [hg]; exact (below_size (by repeat (first | (with_reducible first | exact HB.out | apply below_alloc | apply pw_below_drewN | apply below_drew1) | exact HB.out))) : w.heap.size ≤ gb109)); have n3_ := Aside0.mk ((by rw [hg]; exact (below_size (by repeat (first | (with_reducible first | exact HB.out | apply below_alloc | apply pw_below_drewN | apply below_drew1) | exact HB.out))) : w.heap.size ≤ gb109)); clear HB; have HB := n0_; have BK109 := n1_; have GW109 := n2_; have GE109 := n3_; clear n0_ n1_ n2_ n3_; clear hb hbox hg) | ((with_reducible refine gate_dst (N := 3) rfl ?_); refine box_event ?hg (N := 3) ?hd (cs := #[.int .i64 a1_0, .int .i64 a1_1, .int .i64 a1_2]) (t := 30) ?hr ?_; (case hd => rfl); (case hg => rfl); (case hr => first | (go_simp; done) | (go_simp; rfl)); intro gb110 hg w24 hbox hb; have n0_ := Aside0.mk (blk_below (g := gb109) (o := .cells #[.int .i64 a0_0, .int .i64 a0_1, .int .u64 a0_2, .int .i64 a0_3, .int .i64 a0_4, .int .i64 a0_5] 32 (0, 0)) (by (with_reducible repeat (first | refine blk_drewN ?_ _ | refine blk_drew ?_ | refine blk_alloc ?_ _)); exact BK109.out) hb); have n1_ := Aside0.mk (below_step (by repeat (first | (with_reducible first | exact HB.out | apply below_alloc | apply pw_below_drewN | apply below_drew1 | refine below_set ?_ GE109.out) | exact HB.out)) hb); have n2_ := Aside0.mk (hbox); have n3_ := Aside0.mk ((by rw [hg]; exact (below_size (by repeat (first | (with_reducible first | exact HB.out | apply below_alloc | apply pw_below_drewN | apply below_drew1 | refine below_set ?_ GE109.out) | exact HB.out))) : w.heap.size ≤ gb110)); have n4_ := Aside0.mk ((by rw [hg]; exact (below_size (by repeat (first | (with_reducible first | exact HB.out | apply below_alloc | apply pw_below_drewN | apply below_drew1 | refine below_set ?_ GE109.out) | exact HB.out))) : w.heap.size ≤ gb110)); have n5_ := Aside0.mk ((by rw [hg]; exact Nat.ne_of_lt (blk_lt (g := gb109) (o := .cells #[.int .i64 a0_0, .int .i64 a0_1, .int .u64 a0_2, .int .i64 a0_3, .int .i64 a0_4, .int .i64 a0_5] 32 (0, 0)) (by (with_reducible repeat (first | refine blk_drewN ?_ _ | refine blk_drew ?_ | refine blk_alloc ?_ _)); exact BK109.out)) : gb109 ≠ gb110)); have n6_ := Aside0.mk ((by rw [hg]; exact Nat.ne_of_gt (blk_lt (g := gb109) (o := .cells #[.int .i64 a0_0, .int .i64 a0_1, .int .u64 a0_2, .int .i64 a0_3, .int .i64 a0_4, .int .i64 a0_5] 32 (0, 0)) (by (with_reducible repeat (first | refine blk_drewN ?_ _ | refine blk_drew ?_ | refine blk_alloc ?_ _)); exact BK109.out)) : gb110 ≠ gb109)); clear BK109; clear HB; have BK109 := n0_; have HB := n1_; have BK110 := n2_; have GW110 := n3_; have GE110 := n4_; have NB109_110 := n5_; have NB110_109 := n6_; clear n0_ n1_ n2_ n3_ n4_ n5_ n6_; clear hb hbox hg; have hnb25 := NB109_110.out; have hnc25 := NB110_109.out; have hcz26_0 : w24.cell? ⟨gb109, 0, none⟩ = some (.int .i64 a0_0) := (blk_cell BK109.out 0).trans rfl; have hcz26_1 : w24.cell? ⟨gb109, 1, none⟩ = some (.int .i64 a0_1) := (blk_cell BK109.out 1).trans rfl; have hcz26_2 : w24.cell? ⟨gb109, 2, none⟩ = some (.int .u64 a0_2) := (blk_cell BK109.out 2).trans rfl; have hcz26_3 : w24.cell? ⟨gb109, 3, none⟩ = some (.int .i64 a0_3) := (blk_cell BK109.out 3).trans rfl; have hcz26_4 : w24.cell? ⟨gb109, 4, none⟩ = some (.int .i64 a0_4) := (blk_cell BK109.out 4).trans rfl; have hcz26_5 : w24.cell? ⟨gb109, 5, none⟩ = some (.int .i64 a0_5) := (blk_cell BK109.out 5).trans rfl; have hfz26_0 := blk_frozen BK109.out 0; have hfz26_1 := blk_frozen BK109.out 1; have hfz26_2 := blk_frozen BK109.out 2; have hfz26_3 := blk_frozen BK109.out 3; have hfz26_4 := blk_frozen BK109.out 4; have hfz26_5 := blk_frozen BK109.out 5; have hcz27_0 : w24.cell? ⟨gb110, 0, none⟩ = some (.int .i64 a1_0) := (blk_cell BK110.out 0).trans rfl; have hcz27_1 : w24.cell? ⟨gb110, 1, none⟩ = some (.int .i64 a1_1) := (blk_cell BK110.out 1).trans rfl; have hcz27_2 : w24.cell? ⟨gb110, 2, none⟩ = some (.int .i64 a1_2) := (blk_cell BK110.out 2).trans rfl; have hfz27_0 := blk_frozen BK110.out 0; have hfz27_1 := blk_frozen BK110.out 1; have hfz27_2 := blk_frozen BK110.out 2))
          go_ret
          exact ⟨by first | rfl | (simp [errW_none, errW_some] <;> rfl) | (simp [*, errW_none, errW_some] <;> rfl), by repeat (first | (with_reducible first | exact HB.out | apply below_alloc | apply pw_below_drewN | apply below_drew1 | refine below_set ?_ GE109.out | refine below_set ?_ GE110.out) | exact HB.out)⟩
      · rw [if_neg c16] at H
        have c16b0 : (a0_1 == 64) = false := beq_eq_false_iff_ne.mpr c16
        have c16b1 : (a0_1 != 64) = true := bne_iff_ne.mpr c16
        obtain rfl := Option.some.inj H
        go_enter Try.func34, Try.ntmps34
        go_wp2_with (first | ((with_reducible refine gate_dst (N := 2) rfl ?_); refine box_event ?hg (N := 2) ?hd (cs := #[.int .i64 a0_0, .int .i64 a0_1, .int .u64 a0_2, .int .i64 a0_3, .int .i64 a0_4, .int .i64 a0_5]) (t := 32) ?hr ?_; (case hd => rfl); (case hg => rfl); (case hr => first | (go_simp; done) | (go_simp; rfl)); intro gb109 hg w28 hbox hb; have n0_ := Aside0.mk (below_step (by repeat (first | (with_reducible first | exact HB.out | apply below_alloc | apply pw_below_drewN | apply below_drew1) | exact HB.out)) hb); have n1_ := Aside0.mk (hbox); have n2_ := Aside0.mk ((by rw [hg]; exact (below_size (by repeat (first | (with_reducible first | exact HB.out | apply below_alloc | apply pw_below_drewN | apply below_drew1) | exact HB.out))) : w.heap.size ≤ gb109)); have n3_ := Aside0.mk ((by rw [hg]; exact (below_size (by repeat (first | (with_reducible first | exact HB.out | apply below_alloc | apply pw_below_drewN | apply below_drew1) | exact HB.out))) : w.heap.size ≤ gb109)); clear HB; have HB := n0_; have BK109 := n1_; have GW109 := n2_; have GE109 := n3_; clear n0_ n1_ n2_ n3_; clear hb hbox hg) | ((with_reducible refine gate_dst (N := 3) rfl ?_); refine box_event ?hg (N := 3) ?hd (cs := #[.int .i64 a1_0, .int .i64 a1_1, .int .i64 a1_2]) (t := 30) ?hr ?_; (case hd => rfl); (case hg => rfl); (case hr => first | (go_simp; done) | (go_simp; rfl)); intro gb110 hg w29 hbox hb; have n0_ := Aside0.mk (blk_below (g := gb109) (o := .cells #[.int .i64 a0_0, .int .i64 a0_1, .int .u64 a0_2, .int .i64 a0_3, .int .i64 a0_4, .int .i64 a0_5] 32 (0, 0)) (by (with_reducible repeat (first | refine blk_drewN ?_ _ | refine blk_drew ?_ | refine blk_alloc ?_ _)); exact BK109.out) hb); have n1_ := Aside0.mk (below_step (by repeat (first | (with_reducible first | exact HB.out | apply below_alloc | apply pw_below_drewN | apply below_drew1 | refine below_set ?_ GE109.out) | exact HB.out)) hb); have n2_ := Aside0.mk (hbox); have n3_ := Aside0.mk ((by rw [hg]; exact (below_size (by repeat (first | (with_reducible first | exact HB.out | apply below_alloc | apply pw_below_drewN | apply below_drew1 | refine below_set ?_ GE109.out) | exact HB.out))) : w.heap.size ≤ gb110)); have n4_ := Aside0.mk ((by rw [hg]; exact (below_size (by repeat (first | (with_reducible first | exact HB.out | apply below_alloc | apply pw_below_drewN | apply below_drew1 | refine below_set ?_ GE109.out) | exact HB.out))) : w.heap.size ≤ gb110)); have n5_ := Aside0.mk ((by rw [hg]; exact Nat.ne_of_lt (blk_lt (g := gb109) (o := .cells #[.int .i64 a0_0, .int .i64 a0_1, .int .u64 a0_2, .int .i64 a0_3, .int .i64 a0_4, .int .i64 a0_5] 32 (0, 0)) (by (with_reducible repeat (first | refine blk_drewN ?_ _ | refine blk_drew ?_ | refine blk_alloc ?_ _)); exact BK109.out)) : gb109 ≠ gb110)); have n6_ := Aside0.mk ((by rw [hg]; exact Nat.ne_of_gt (blk_lt (g := gb109) (o := .cells #[.int .i64 a0_0, .int .i64 a0_1, .int .u64 a0_2, .int .i64 a0_3, .int .i64 a0_4, .int .i64 a0_5] 32 (0, 0)) (by (with_reducible repeat (first | refine blk_drewN ?_ _ | refine blk_drew ?_ | refine blk_alloc ?_ _)); exact BK109.out)) : gb110 ≠ gb109)); clear BK109; clear HB; have BK109 := n0_; have HB := n1_; have BK110 := n2_; have GW110 := n3_; have GE110 := n4_; have NB109_110 := n5_; have NB110_109 := n6_; clear n0_ n1_ n2_ n3_ n4_ n5_ n6_; clear hb hbox hg; have hnb30 := NB109_110.out; have hnc30 := NB110_109.out; have hcz31_0 : w29.cell? ⟨gb109, 0, none⟩ = some (.int .i64 a0_0) := (blk_cell BK109.out 0).trans rfl; have hcz31_1 : w29.cell? ⟨gb109, 1, none⟩ = some (.int .i64 a0_1) := (blk_cell BK109.out 1).trans rfl; have hcz31_2 : w29.cell? ⟨gb109, 2, none⟩ = some (.int .u64 a0_2) := (blk_cell BK109.out 2).trans rfl; have hcz31_3 : w29.cell? ⟨gb109, 3, none⟩ = some (.int .i64 a0_3) := (blk_cell BK109.out 3).trans rfl; have hcz31_4 : w29.cell? ⟨gb109, 4, none⟩ = some (.int .i64 a0_4) := (blk_cell BK109.out 4).trans rfl; have hcz31_5 : w29.cell? ⟨gb109, 5, none⟩ = some (.int .i64 a0_5) := (blk_cell BK109.out 5).trans rfl; have hfz31_0 := blk_frozen BK109.out 0; have hfz31_1 := blk_frozen BK109.out 1; have hfz31_2 := blk_frozen BK109.out 2; have hfz31_3 := blk_frozen BK109.out 3; have hfz31_4 := blk_frozen BK109.out 4; have hfz31_5 := blk_frozen BK109.out 5))
        go_ret
        exact ⟨by first | rfl | (simp [errW_none, errW_some] <;> rfl) | (simp [*, errW_none, errW_some] <;> rfl), by repeat (first | (with_reducible first | exact HB.out | apply below_alloc | apply pw_below_drewN | apply below_drew1 | refine below_set ?_ GE109.out | refine below_set ?_ GE110.out) | exact HB.out)⟩
    · rw [if_neg c15] at H
      have c15b0 : (a0_0 == 6) = false := beq_eq_false_iff_ne.mpr c15
      have c15b1 : (a0_0 != 6) = true := bne_iff_ne.mpr c15
      by_cases c32 : a0_0 = 7
      · rw [if_pos c32] at H
        have c32b0 : (a0_0 == 7) = true := beq_iff_eq.mpr c32
        have c32b1 : (a0_0 != 7) = false := bne_eq_false_iff_eq.mpr c32
        clear c32
        by_cases c33 : a0_1 = 8
        · rw [if_pos c33] at H
          have c33b0 : (a0_1 == 8) = true := beq_iff_eq.mpr c33
          have c33b1 : (a0_1 != 8) = false := bne_eq_false_iff_eq.mpr c33
          clear c33
          obtain rfl := Option.some.inj H
          go_enter Try.func34, Try.ntmps34
          go_wp2_with (first | ((with_reducible refine gate_dst (N := 2) rfl ?_); refine box_event ?hg (N := 2) ?hd (cs := #[.int .i64 a0_0, .int .i64 a0_1, .int .u64 a0_2, .int .i64 a0_3, .int .i64 a0_4, .int .i64 a0_5]) (t := 32) ?hr ?_; (case hd => rfl); (case hg => rfl); (case hr => first | (go_simp; done) | (go_simp; rfl)); intro gb109 hg w34 hbox hb; have n0_ := Aside0.mk (below_step (by repeat (first | (with_reducible first | exact HB.out | apply below_alloc | apply pw_below_drewN | apply below_drew1) | exact HB.out)) hb); have n1_ := Aside0.mk (hbox); have n2_ := Aside0.mk ((by rw [hg]; exact (below_size (by repeat (first | (with_reducible first | exact HB.out | apply below_alloc | apply pw_below_drewN | apply below_drew1) | exact HB.out))) : w.heap.size ≤ gb109)); have n3_ := Aside0.mk ((by rw [hg]; exact (below_size (by repeat (first | (with_reducible first | exact HB.out | apply below_alloc | apply pw_below_drewN | apply below_drew1) | exact HB.out))) : w.heap.size ≤ gb109)); clear HB; have HB := n0_; have BK109 := n1_; have GW109 := n2_; have GE109 := n3_; clear n0_ n1_ n2_ n3_; clear hb hbox hg) | ((with_reducible refine gate_dst (N := 3) rfl ?_); refine box_event ?hg (N := 3) ?hd (cs := #[.int .i64 a1_0, .int .i64 a1_1, .int .i64 a1_2]) (t := 30) ?hr ?_; (case hd => rfl); (case hg => rfl); (case hr => first | (go_simp; done) | (go_simp; rfl)); intro gb110 hg w35 hbox hb; have n0_ := Aside0.mk (blk_below (g := gb109) (o := .cells #[.int .i64 a0_0, .int .i64 a0_1, .int .u64 a0_2, .int .i64 a0_3, .int .i64 a0_4, .int .i64 a0_5] 32 (0, 0)) (by (with_reducible repeat (first | refine blk_drewN ?_ _ | refine blk_drew ?_ | refine blk_alloc ?_ _)); exact BK109.out) hb); have n1_ := Aside0.mk (below_step (by repeat (first | (with_reducible first | exact HB.out | apply below_alloc | apply pw_below_drewN | apply below_drew1 | refine below_set ?_ GE109.out) | exact HB.out)) hb); have n2_ := Aside0.mk (hbox); have n3_ := Aside0.mk ((by rw [hg]; exact (below_size (by repeat (first | (with_reducible first | exact HB.out | apply below_alloc | apply pw_below_drewN | apply below_drew1 | refine below_set ?_ GE109.out) | exact HB.out))) : w.heap.size ≤ gb110)); have n4_ := Aside0.mk ((by rw [hg]; exact (below_size (by repeat (first | (with_reducible first | exact HB.out | apply below_alloc | apply pw_below_drewN | apply below_drew1 | refine below_set ?_ GE109.out) | exact HB.out))) : w.heap.size ≤ gb110)); have n5_ := Aside0.mk ((by rw [hg]; exact Nat.ne_of_lt (blk_lt (g := gb109) (o := .cells #[.int .i64 a0_0, .int .i64 a0_1, .int .u64 a0_2, .int .i64 a0_3, .int .i64 a0_4, .int .i64 a0_5] 32 (0, 0)) (by (with_reducible repeat (first | refine blk_drewN ?_ _ | refine blk_drew ?_ | refine blk_alloc ?_ _)); exact BK109.out)) : gb109 ≠ gb110)); have n6_ := Aside0.mk ((by rw [hg]; exact Nat.ne_of_gt (blk_lt (g := gb109) (o := .cells #[.int .i64 a0_0, .int .i64 a0_1, .int .u64 a0_2, .int .i64 a0_3, .int .i64 a0_4, .int .i64 a0_5] 32 (0, 0)) (by (with_reducible repeat (first | refine blk_drewN ?_ _ | refine blk_drew ?_ | refine blk_alloc ?_ _)); exact BK109.out)) : gb110 ≠ gb109)); clear BK109; clear HB; have BK109 := n0_; have HB := n1_; have BK110 := n2_; have GW110 := n3_; have GE110 := n4_; have NB109_110 := n5_; have NB110_109 := n6_; clear n0_ n1_ n2_ n3_ n4_ n5_ n6_; clear hb hbox hg; have hnb36 := NB109_110.out; have hnc36 := NB110_109.out; have hcz37_0 : w35.cell? ⟨gb109, 0, none⟩ = some (.int .i64 a0_0) := (blk_cell BK109.out 0).trans rfl; have hcz37_1 : w35.cell? ⟨gb109, 1, none⟩ = some (.int .i64 a0_1) := (blk_cell BK109.out 1).trans rfl; have hcz37_2 : w35.cell? ⟨gb109, 2, none⟩ = some (.int .u64 a0_2) := (blk_cell BK109.out 2).trans rfl; have hcz37_3 : w35.cell? ⟨gb109, 3, none⟩ = some (.int .i64 a0_3) := (blk_cell BK109.out 3).trans rfl; have hcz37_4 : w35.cell? ⟨gb109, 4, none⟩ = some (.int .i64 a0_4) := (blk_cell BK109.out 4).trans rfl; have hcz37_5 : w35.cell? ⟨gb109, 5, none⟩ = some (.int .i64 a0_5) := (blk_cell BK109.out 5).trans rfl; have hfz37_0 := blk_frozen BK109.out 0; have hfz37_1 := blk_frozen BK109.out 1; have hfz37_2 := blk_frozen BK109.out 2; have hfz37_3 := blk_frozen BK109.out 3; have hfz37_4 := blk_frozen BK109.out 4; have hfz37_5 := blk_frozen BK109.out 5; have hcz38_0 : w35.cell? ⟨gb110, 0, none⟩ = some (.int .i64 a1_0) := (blk_cell BK110.out 0).trans rfl; have hcz38_1 : w35.cell? ⟨gb110, 1, none⟩ = some (.int .i64 a1_1) := (blk_cell BK110.out 1).trans rfl; have hcz38_2 : w35.cell? ⟨gb110, 2, none⟩ = some (.int .i64 a1_2) := (blk_cell BK110.out 2).trans rfl; have hfz38_0 := blk_frozen BK110.out 0; have hfz38_1 := blk_frozen BK110.out 1; have hfz38_2 := blk_frozen BK110.out 2))
          go_ret
          exact ⟨by first | rfl | (simp [errW_none, errW_some] <;> rfl) | (simp [*, errW_none, errW_some] <;> rfl), by repeat (first | (with_reducible first | exact HB.out | apply below_alloc | apply pw_below_drewN | apply below_drew1 | refine below_set ?_ GE109.out | refine below_set ?_ GE110.out) | exact HB.out)⟩
        · rw [if_neg c33] at H
          have c33b0 : (a0_1 == 8) = false := beq_eq_false_iff_ne.mpr c33
          have c33b1 : (a0_1 != 8) = true := bne_iff_ne.mpr c33
          obtain rfl := Option.some.inj H
          go_enter Try.func34, Try.ntmps34
          go_wp2_with (first | ((with_reducible refine gate_dst (N := 2) rfl ?_); refine box_event ?hg (N := 2) ?hd (cs := #[.int .i64 a0_0, .int .i64 a0_1, .int .u64 a0_2, .int .i64 a0_3, .int .i64 a0_4, .int .i64 a0_5]) (t := 32) ?hr ?_; (case hd => rfl); (case hg => rfl); (case hr => first | (go_simp; done) | (go_simp; rfl)); intro gb109 hg w39 hbox hb; have n0_ := Aside0.mk (below_step (by repeat (first | (with_reducible first | exact HB.out | apply below_alloc | apply pw_below_drewN | apply below_drew1) | exact HB.out)) hb); have n1_ := Aside0.mk (hbox); have n2_ := Aside0.mk ((by rw [hg]; exact (below_size (by repeat (first | (with_reducible first | exact HB.out | apply below_alloc | apply pw_below_drewN | apply below_drew1) | exact HB.out))) : w.heap.size ≤ gb109)); have n3_ := Aside0.mk ((by rw [hg]; exact (below_size (by repeat (first | (with_reducible first | exact HB.out | apply below_alloc | apply pw_below_drewN | apply below_drew1) | exact HB.out))) : w.heap.size ≤ gb109)); clear HB; have HB := n0_; have BK109 := n1_; have GW109 := n2_; have GE109 := n3_; clear n0_ n1_ n2_ n3_; clear hb hbox hg) | ((with_reducible refine gate_dst (N := 3) rfl ?_); refine box_event ?hg (N := 3) ?hd (cs := #[.int .i64 a1_0, .int .i64 a1_1, .int .i64 a1_2]) (t := 30) ?hr ?_; (case hd => rfl); (case hg => rfl); (case hr => first | (go_simp; done) | (go_simp; rfl)); intro gb110 hg w40 hbox hb; have n0_ := Aside0.mk (blk_below (g := gb109) (o := .cells #[.int .i64 a0_0, .int .i64 a0_1, .int .u64 a0_2, .int .i64 a0_3, .int .i64 a0_4, .int .i64 a0_5] 32 (0, 0)) (by (with_reducible repeat (first | refine blk_drewN ?_ _ | refine blk_drew ?_ | refine blk_alloc ?_ _)); exact BK109.out) hb); have n1_ := Aside0.mk (below_step (by repeat (first | (with_reducible first | exact HB.out | apply below_alloc | apply pw_below_drewN | apply below_drew1 | refine below_set ?_ GE109.out) | exact HB.out)) hb); have n2_ := Aside0.mk (hbox); have n3_ := Aside0.mk ((by rw [hg]; exact (below_size (by repeat (first | (with_reducible first | exact HB.out | apply below_alloc | apply pw_below_drewN | apply below_drew1 | refine below_set ?_ GE109.out) | exact HB.out))) : w.heap.size ≤ gb110)); have n4_ := Aside0.mk ((by rw [hg]; exact (below_size (by repeat (first | (with_reducible first | exact HB.out | apply below_alloc | apply pw_below_drewN | apply below_drew1 | refine below_set ?_ GE109.out) | exact HB.out))) : w.heap.size ≤ gb110)); have n5_ := Aside0.mk ((by rw [hg]; exact Nat.ne_of_lt (blk_lt (g := gb109) (o := .cells #[.int .i64 a0_0, .int .i64 a0_1, .int .u64 a0_2, .int .i64 a0_3, .int .i64 a0_4, .int .i64 a0_5] 32 (0, 0)) (by (with_reducible repeat (first | refine blk_drewN ?_ _ | refine blk_drew ?_ | refine blk_alloc ?_ _)); exact BK109.out)) : gb109 ≠ gb110)); have n6_ := Aside0.mk ((by rw [hg]; exact Nat.ne_of_gt (blk_lt (g := gb109) (o := .cells #[.int .i64 a0_0, .int .i64 a0_1, .int .u64 a0_2, .int .i64 a0_3, .int .i64 a0_4, .int .i64 a0_5] 32 (0, 0)) (by (with_reducible repeat (first | refine blk_drewN ?_ _ | refine blk_drew ?_ | refine blk_alloc ?_ _)); exact BK109.out)) : gb110 ≠ gb109)); clear BK109; clear HB; have BK109 := n0_; have HB := n1_; have BK110 := n2_; have GW110 := n3_; have GE110 := n4_; have NB109_110 := n5_; have NB110_109 := n6_; clear n0_ n1_ n2_ n3_ n4_ n5_ n6_; clear hb hbox hg; have hnb41 := NB109_110.out; have hnc41 := NB110_109.out; have hcz42_0 : w40.cell? ⟨gb109, 0, none⟩ = some (.int .i64 a0_0) := (blk_cell BK109.out 0).trans rfl; have hcz42_1 : w40.cell? ⟨gb109, 1, none⟩ = some (.int .i64 a0_1) := (blk_cell BK109.out 1).trans rfl; have hcz42_2 : w40.cell? ⟨gb109, 2, none⟩ = some (.int .u64 a0_2) := (blk_cell BK109.out 2).trans rfl; have hcz42_3 : w40.cell? ⟨gb109, 3, none⟩ = some (.int .i64 a0_3) := (blk_cell BK109.out 3).trans rfl; have hcz42_4 : w40.cell? ⟨gb109, 4, none⟩ = some (.int .i64 a0_4) := (blk_cell BK109.out 4).trans rfl; have hcz42_5 : w40.cell? ⟨gb109, 5, none⟩ = some (.int .i64 a0_5) := (blk_cell BK109.out 5).trans rfl; have hfz42_0 := blk_frozen BK109.out 0; have hfz42_1 := blk_frozen BK109.out 1; have hfz42_2 := blk_frozen BK109.out 2; have hfz42_3 := blk_frozen BK109.out 3; have hfz42_4 := blk_frozen BK109.out 4; have hfz42_5 := blk_frozen BK109.out 5))
          go_ret
          exact ⟨by first | rfl | (simp [errW_none, errW_some] <;> rfl) | (simp [*, errW_none, errW_some] <;> rfl), by repeat (first | (with_reducible first | exact HB.out | apply below_alloc | apply pw_below_drewN | apply below_drew1 | refine below_set ?_ GE109.out | refine below_set ?_ GE110.out) | exact HB.out)⟩
      · rw [if_neg c32] at H
        have c32b0 : (a0_0 == 7) = false := beq_eq_false_iff_ne.mpr c32
        have c32b1 : (a0_0 != 7) = true := bne_iff_ne.mpr c32
        have HC43 := Aside0.mk H
        clear H
        go_enter Try.func34, Try.ntmps34
        go_upto_if 44 with (first | ((with_reducible refine gate_dst (N := 2) rfl ?_); refine box_event ?hg (N := 2) ?hd (cs := #[.int .i64 a0_0, .int .i64 a0_1, .int .u64 a0_2, .int .i64 a0_3, .int .i64 a0_4, .int .i64 a0_5]) (t := 32) ?hr ?_; (case hd => rfl); (case hg => rfl); (case hr => first | (go_simp; done) | (go_simp; rfl)); intro gb109 hg w44 hbox hb; have n0_ := Aside0.mk (below_step (by repeat (first | (with_reducible first | exact HB.out | apply below_alloc | apply pw_below_drewN | apply below_drew1) | exact HB.out)) hb); have n1_ := Aside0.mk (hbox); have n2_ := Aside0.mk ((by rw [hg]; exact (below_size (by repeat (first | (with_reducible first | exact HB.out | apply below_alloc | apply pw_below_drewN | apply below_drew1) | exact HB.out))) : w.heap.size ≤ gb109)); have n3_ := Aside0.mk ((by rw [hg]; exact (below_size (by repeat (first | (with_reducible first | exact HB.out | apply below_alloc | apply pw_below_drewN | apply below_drew1) | exact HB.out))) : w.heap.size ≤ gb109)); clear HB; have HB := n0_; have BK109 := n1_; have GW109 := n2_; have GE109 := n3_; clear n0_ n1_ n2_ n3_; clear hb hbox hg) | ((with_reducible refine gate_dst (N := 3) rfl ?_); refine box_event ?hg (N := 3) ?hd (cs := #[.int .i64 a1_0, .int .i64 a1_1, .int .i64 a1_2]) (t := 30) ?hr ?_; (case hd => rfl); (case hg => rfl); (case hr => first | (go_simp; done) | (go_simp; rfl)); intro gb110 hg w45 hbox hb; have n0_ := Aside0.mk (blk_below (g := gb109) (o := .cells #[.int .i64 a0_0, .int .i64 a0_1, .int .u64 a0_2, .int .i64 a0_3, .int .i64 a0_4, .int .i64 a0_5] 32 (0, 0)) (by (with_reducible repeat (first | refine blk_drewN ?_ _ | refine blk_drew ?_ | refine blk_alloc ?_ _)); exact BK109.out) hb); have n1_ := Aside0.mk (below_step (by repeat (first | (with_reducible first | exact HB.out | apply below_alloc | apply pw_below_drewN | apply below_drew1 | refine below_set ?_ GE109.out) | exact HB.out)) hb); have n2_ := Aside0.mk (hbox); have n3_ := Aside0.mk ((by rw [hg]; exact (below_size (by repeat (first | (with_reducible first | exact HB.out | apply below_alloc | apply pw_below_drewN | apply below_drew1 | refine below_set ?_ GE109.out) | exact HB.out))) : w.heap.size ≤ gb110)); have n4_ := Aside0.mk ((by rw [hg]; exact (below_size (by repeat (first | (with_reducible first | exact HB.out | apply below_alloc | apply pw_below_drewN | apply below_drew1 | refine below_set ?_ GE109.out) | exact HB.out))) : w.heap.size ≤ gb110)); have n5_ := Aside0.mk ((by rw [hg]; exact Nat.ne_of_lt (blk_lt (g := gb109) (o := .cells #[.int .i64 a0_0, .int .i64 a0_1, .int .u64 a0_2, .int .i64 a0_3, .int .i64 a0_4, .int .i64 a0_5] 32 (0, 0)) (by (with_reducible repeat (first | refine blk_drewN ?_ _ | refine blk_drew ?_ | refine blk_alloc ?_ _)); exact BK109.out)) : gb109 ≠ gb110)); have n6_ := Aside0.mk ((by rw [hg]; exact Nat.ne_of_gt (blk_lt (g := gb109) (o := .cells #[.int .i64 a0_0, .int .i64 a0_1, .int .u64 a0_2, .int .i64 a0_3, .int .i64 a0_4, .int .i64 a0_5] 32 (0, 0)) (by (with_reducible repeat (first | refine blk_drewN ?_ _ | refine blk_drew ?_ | refine blk_alloc ?_ _)); exact BK109.out)) : gb110 ≠ gb109)); clear BK109; clear HB; have BK109 := n0_; have HB := n1_; have BK110 := n2_; have GW110 := n3_; have GE110 := n4_; have NB109_110 := n5_; have NB110_109 := n6_; clear n0_ n1_ n2_ n3_ n4_ n5_ n6_; clear hb hbox hg; have hnb46 := NB109_110.out; have hnc46 := NB110_109.out; have hcz47_0 : w45.cell? ⟨gb109, 0, none⟩ = some (.int .i64 a0_0) := (blk_cell BK109.out 0).trans rfl; have hcz47_1 : w45.cell? ⟨gb109, 1, none⟩ = some (.int .i64 a0_1) := (blk_cell BK109.out 1).trans rfl; have hcz47_2 : w45.cell? ⟨gb109, 2, none⟩ = some (.int .u64 a0_2) := (blk_cell BK109.out 2).trans rfl; have hcz47_3 : w45.cell? ⟨gb109, 3, none⟩ = some (.int .i64 a0_3) := (blk_cell BK109.out 3).trans rfl; have hcz47_4 : w45.cell? ⟨gb109, 4, none⟩ = some (.int .i64 a0_4) := (blk_cell BK109.out 4).trans rfl; have hcz47_5 : w45.cell? ⟨gb109, 5, none⟩ = some (.int .i64 a0_5) := (blk_cell BK109.out 5).trans rfl; have hfz47_0 := blk_frozen BK109.out 0; have hfz47_1 := blk_frozen BK109.out 1; have hfz47_2 := blk_frozen BK109.out 2; have hfz47_3 := blk_frozen BK109.out 3; have hfz47_4 := blk_frozen BK109.out 4; have hfz47_5 := blk_frozen BK109.out 5))
        (try simp only [Act.put, List.setIfInBounds_toArray, List.set_cons_zero, List.set_cons_succ])
        go_cut [44] (fun v44 wc => ∃ (kq : Nat) (x44_42 : Bool), v44 = .bool x44_42 ∧ Aside0 (term_wide.j0 kq a0_0 x44_42 a0_0 a0_1 a0_2 a0_3 a0_4 a0_5 a1_0 a1_1 a1_2 = some r) ∧ Aside0 (kq ≤ k) ∧ Aside0 (wc.heap[gb109]? = some (.cells #[.int .i64 a0_0, .int .i64 a0_1, .int .u64 a0_2, .int .i64 a0_3, .int .i64 a0_4, .int .i64 a0_5] 32 (0, 0))) ∧ Aside0 (wc.heap[gb110]? = some (.cells #[.int .i64 a1_0, .int .i64 a1_1, .int .i64 a1_2] 30 (0, 0))) ∧ Aside0 (Below w.heap.size w wc))
        case first =>
          have H := HC43.out
          clear HC43
          by_cases c48 : a0_0 = 19
          · rw [if_pos c48] at H
            have c48b0 : (a0_0 == 19) = true := beq_iff_eq.mpr c48
            have c48b1 : (a0_0 != 19) = false := bne_eq_false_iff_eq.mpr c48
            clear c48
            (first | rw [c48b0] | (simp only [i64_w, i32_w]; rw [c48b0]) | skip)
            have H' := Aside0.mk H
            clear H
            go_wp2
            go_meet
            case rel => exact ⟨_, ((a0_0 == 19)), (by first | rfl | (simp; done) | (simp [*]; done)), H', ⟨by first | omega | exact Nat.le_refl _⟩, ⟨by (with_reducible repeat (first | refine blk_drewN ?_ _ | refine blk_drew ?_ | refine blk_alloc ?_ _)); exact BK109.out⟩, ⟨by (with_reducible repeat (first | refine blk_drewN ?_ _ | refine blk_drew ?_ | refine blk_alloc ?_ _)); exact BK110.out⟩, ⟨by repeat (first | (with_reducible first | exact HB.out | apply below_alloc | apply pw_below_drewN | apply below_drew1 | refine below_set ?_ GE109.out | refine below_set ?_ GE110.out) | exact HB.out)⟩⟩
          · rw [if_neg c48] at H
            have c48b0 : (a0_0 == 19) = false := beq_eq_false_iff_ne.mpr c48
            have c48b1 : (a0_0 != 19) = true := bne_iff_ne.mpr c48
            (first | rw [c48b0] | (simp only [i64_w, i32_w]; rw [c48b0]) | skip)
            by_cases c49 : a0_0 = 20
            · rw [if_pos c49] at H
              have c49b0 : (a0_0 == 20) = true := beq_iff_eq.mpr c49
              have c49b1 : (a0_0 != 20) = false := bne_eq_false_iff_eq.mpr c49
              clear c49
              have H' := Aside0.mk H
              clear H
              go_wp2
              go_meet
              case rel => exact ⟨_, ((a0_0 == 20)), (by first | rfl | (simp; done) | (simp [*]; done)), H', ⟨by first | omega | exact Nat.le_refl _⟩, ⟨by (with_reducible repeat (first | refine blk_drewN ?_ _ | refine blk_drew ?_ | refine blk_alloc ?_ _)); exact BK109.out⟩, ⟨by (with_reducible repeat (first | refine blk_drewN ?_ _ | refine blk_drew ?_ | refine blk_alloc ?_ _)); exact BK110.out⟩, ⟨by repeat (first | (with_reducible first | exact HB.out | apply below_alloc | apply pw_below_drewN | apply below_drew1 | refine below_set ?_ GE109.out | refine below_set ?_ GE110.out) | exact HB.out)⟩⟩
            · rw [if_neg c49] at H
              have c49b0 : (a0_0 == 20) = false := beq_eq_false_iff_ne.mpr c49
              have c49b1 : (a0_0 != 20) = true := bne_iff_ne.mpr c49
              have H' := Aside0.mk H
              clear H
              go_wp2
              go_meet
              case rel => exact ⟨_, ((a0_0 == 21)), (by first | rfl | (simp; done) | (simp [*]; done)), H', ⟨by first | omega | exact Nat.le_refl _⟩, ⟨by (with_reducible repeat (first | refine blk_drewN ?_ _ | refine blk_drew ?_ | refine blk_alloc ?_ _)); exact BK109.out⟩, ⟨by (with_reducible repeat (first | refine blk_drewN ?_ _ | refine blk_drew ?_ | refine blk_alloc ?_ _)); exact BK110.out⟩, ⟨by repeat (first | (with_reducible first | exact HB.out | apply below_alloc | apply pw_below_drewN | apply below_drew1 | refine below_set ?_ GE109.out | refine below_set ?_ GE110.out) | exact HB.out)⟩⟩
        case rest =>
          clear HC43
          try clear c1
          try clear c2
          try clear p2
          try clear c3
          try clear c3b0
          try clear c3b1
          try clear c4
          try clear c4b0
          try clear c4b1
          try clear c7
          try clear c12
          try clear c15
          try clear c15b0
          try clear c15b1
          try clear c16
          try clear c16b0
          try clear c16b1
          try clear c17
          try clear c17b0
          try clear c17b1
          try clear c20
          try clear c25
          try clear c30
          try clear c32
          try clear c32b0
          try clear c32b1
          try clear c33
          try clear c33b0
          try clear c33b1
          try clear c34
          try clear c36
          try clear c41
          try clear c46
          try clear c48
          try clear c48b0
          try clear c48b1
          try clear c49
          try clear c49b0
          try clear c49b1
          try clear hcz13_0
          try clear hcz13_1
          try clear hcz13_2
          try clear hcz13_3
          try clear hcz13_4
          try clear hcz13_5
          try clear hcz14_0
          try clear hcz14_1
          try clear hcz14_2
          try clear hcz21_0
          try clear hcz21_1
          try clear hcz21_2
          try clear hcz21_3
          try clear hcz21_4
          try clear hcz21_5
          try clear hcz22_0
          try clear hcz22_1
          try clear hcz22_2
          try clear hcz26_0
          try clear hcz26_1
          try clear hcz26_2
          try clear hcz26_3
          try clear hcz26_4
          try clear hcz26_5
          try clear hcz27_0
          try clear hcz27_1
          try clear hcz27_2
          try clear hcz31_0
          try clear hcz31_1
          try clear hcz31_2
          try clear hcz31_3
          try clear hcz31_4
          try clear hcz31_5
          try clear hcz37_0
          try clear hcz37_1
          try clear hcz37_2
          try clear hcz37_3
          try clear hcz37_4
          try clear hcz37_5
          try clear hcz38_0
          try clear hcz38_1
          try clear hcz38_2
          try clear hcz42_0
          try clear hcz42_1
          try clear hcz42_2
          try clear hcz42_3
          try clear hcz42_4
          try clear hcz42_5
          try clear hcz47_0
          try clear hcz47_1
          try clear hcz47_2
          try clear hcz47_3
          try clear hcz47_4
          try clear hcz47_5
          try clear hcz8_0
          try clear hcz8_1
          try clear hcz8_2
          try clear hcz8_3
          try clear hcz8_4
          try clear hcz8_5
          try clear hcz9_0
          try clear hcz9_1
          try clear hcz9_2
          try clear hfz13_0
          try clear hfz13_1
          try clear hfz13_2
          try clear hfz13_3
          try clear hfz13_4
          try clear hfz13_5
          try clear hfz14_0
          try clear hfz14_1
          try clear hfz14_2
          try clear hfz21_0
          try clear hfz21_1
          try clear hfz21_2
          try clear hfz21_3
          try clear hfz21_4
          try clear hfz21_5
          try clear hfz22_0
          try clear hfz22_1
          try clear hfz22_2
          try clear hfz26_0
          try clear hfz26_1
          try clear hfz26_2
          try clear hfz26_3
          try clear hfz26_4
          try clear hfz26_5
          try clear hfz27_0
          try clear hfz27_1
          try clear hfz27_2
          try clear hfz31_0
          try clear hfz31_1
          try clear hfz31_2
          try clear hfz31_3
          try clear hfz31_4
          try clear hfz31_5
          try clear hfz37_0
          try clear hfz37_1
          try clear hfz37_2
          try clear hfz37_3
          try clear hfz37_4
          try clear hfz37_5
          try clear hfz38_0
          try clear hfz38_1
          try clear hfz38_2
          try clear hfz42_0
          try clear hfz42_1
          try clear hfz42_2
          try clear hfz42_3
          try clear hfz42_4
          try clear hfz42_5
          try clear hfz47_0
          try clear hfz47_1
          try clear hfz47_2
          try clear hfz47_3
          try clear hfz47_4
          try clear hfz47_5
          try clear hfz8_0
          try clear hfz8_1
          try clear hfz8_2
          try clear hfz8_3
          try clear hfz8_4
          try clear hfz8_5
          try clear hfz9_0
          try clear hfz9_1
          try clear hfz9_2
          obtain ⟨kq, x44_42, rfl, HA, HJ42, BK109, BK110, HB⟩ := hcut
          cases kq with
          | zero => exact absurd HA.out (by simp [term_wide.j0])
          | succ kj42 =>
            have H := HA.out
            clear HA
            simp only [term_wide.j0] at H
            by_cases c50 : x44_42 = true
            · subst c50
              have H1 : (if a0_1 = 1 then (if a1_0 = 0 then (some false) else (some (a1_0 == a1_1))) else (some false)) = some r := by rw [if_pos rfl] at H; exact H
              clear H
              have H := H1
              clear H1
              by_cases c51 : a0_1 = 1
              · rw [if_pos c51] at H
                have c51b0 : (a0_1 == 1) = true := beq_iff_eq.mpr c51
                have c51b1 : (a0_1 != 1) = false := bne_eq_false_iff_eq.mpr c51
                clear c51
                by_cases c52 : a1_0 = 0
                · rw [if_pos c52] at H
                  have c52b0 : (a1_0 == 0) = true := beq_iff_eq.mpr c52
                  have c52b1 : (a1_0 != 0) = false := bne_eq_false_iff_eq.mpr c52
                  clear c52
                  obtain rfl := Option.some.inj H
                  have hnb53 := NB109_110.out
                  have hnc53 := NB110_109.out
                  have hcz54_0 : wc.cell? ⟨gb109, 0, none⟩ = some (.int .i64 a0_0) := (blk_cell BK109.out 0).trans rfl
                  have hcz54_1 : wc.cell? ⟨gb109, 1, none⟩ = some (.int .i64 a0_1) := (blk_cell BK109.out 1).trans rfl
                  have hcz54_2 : wc.cell? ⟨gb109, 2, none⟩ = some (.int .u64 a0_2) := (blk_cell BK109.out 2).trans rfl
                  have hcz54_3 : wc.cell? ⟨gb109, 3, none⟩ = some (.int .i64 a0_3) := (blk_cell BK109.out 3).trans rfl
                  have hcz54_4 : wc.cell? ⟨gb109, 4, none⟩ = some (.int .i64 a0_4) := (blk_cell BK109.out 4).trans rfl
                  have hcz54_5 : wc.cell? ⟨gb109, 5, none⟩ = some (.int .i64 a0_5) := (blk_cell BK109.out 5).trans rfl
                  have hfz54_0 := blk_frozen BK109.out 0
                  have hfz54_1 := blk_frozen BK109.out 1
                  have hfz54_2 := blk_frozen BK109.out 2
                  have hfz54_3 := blk_frozen BK109.out 3
                  have hfz54_4 := blk_frozen BK109.out 4
                  have hfz54_5 := blk_frozen BK109.out 5
                  have hcz55_0 : wc.cell? ⟨gb110, 0, none⟩ = some (.int .i64 a1_0) := (blk_cell BK110.out 0).trans rfl
                  have hcz55_1 : wc.cell? ⟨gb110, 1, none⟩ = some (.int .i64 a1_1) := (blk_cell BK110.out 1).trans rfl
                  have hcz55_2 : wc.cell? ⟨gb110, 2, none⟩ = some (.int .i64 a1_2) := (blk_cell BK110.out 2).trans rfl
                  have hfz55_0 := blk_frozen BK110.out 0
                  have hfz55_1 := blk_frozen BK110.out 1
                  have hfz55_2 := blk_frozen BK110.out 2
                  go_wp2
                  go_ret
                  exact ⟨by first | rfl | (simp [errW_none, errW_some] <;> rfl) | (simp [*, errW_none, errW_some] <;> rfl), by repeat (first | (with_reducible first | exact HB.out | apply below_alloc | apply pw_below_drewN | apply below_drew1 | refine below_set ?_ GE109.out | refine below_set ?_ GE110.out) | exact HB.out)⟩
                · rw [if_neg c52] at H
                  have c52b0 : (a1_0 == 0) = false := beq_eq_false_iff_ne.mpr c52
                  have c52b1 : (a1_0 != 0) = true := bne_iff_ne.mpr c52
                  obtain rfl := Option.some.inj H
                  have hnb56 := NB109_110.out
                  have hnc56 := NB110_109.out
                  have hcz57_0 : wc.cell? ⟨gb109, 0, none⟩ = some (.int .i64 a0_0) := (blk_cell BK109.out 0).trans rfl
                  have hcz57_1 : wc.cell? ⟨gb109, 1, none⟩ = some (.int .i64 a0_1) := (blk_cell BK109.out 1).trans rfl
                  have hcz57_2 : wc.cell? ⟨gb109, 2, none⟩ = some (.int .u64 a0_2) := (blk_cell BK109.out 2).trans rfl
                  have hcz57_3 : wc.cell? ⟨gb109, 3, none⟩ = some (.int .i64 a0_3) := (blk_cell BK109.out 3).trans rfl
                  have hcz57_4 : wc.cell? ⟨gb109, 4, none⟩ = some (.int .i64 a0_4) := (blk_cell BK109.out 4).trans rfl
                  have hcz57_5 : wc.cell? ⟨gb109, 5, none⟩ = some (.int .i64 a0_5) := (blk_cell BK109.out 5).trans rfl
                  have hfz57_0 := blk_frozen BK109.out 0
                  have hfz57_1 := blk_frozen BK109.out 1
                  have hfz57_2 := blk_frozen BK109.out 2
                  have hfz57_3 := blk_frozen BK109.out 3
                  have hfz57_4 := blk_frozen BK109.out 4
                  have hfz57_5 := blk_frozen BK109.out 5
                  have hcz58_0 : wc.cell? ⟨gb110, 0, none⟩ = some (.int .i64 a1_0) := (blk_cell BK110.out 0).trans rfl
                  have hcz58_1 : wc.cell? ⟨gb110, 1, none⟩ = some (.int .i64 a1_1) := (blk_cell BK110.out 1).trans rfl
                  have hcz58_2 : wc.cell? ⟨gb110, 2, none⟩ = some (.int .i64 a1_2) := (blk_cell BK110.out 2).trans rfl
                  have hfz58_0 := blk_frozen BK110.out 0
                  have hfz58_1 := blk_frozen BK110.out 1
                  have hfz58_2 := blk_frozen BK110.out 2
                  go_wp2
                  go_ret
                  exact ⟨by first | rfl | (simp [errW_none, errW_some] <;> rfl) | (simp [*, errW_none, errW_some] <;> rfl), by repeat (first | (with_reducible first | exact HB.out | apply below_alloc | apply pw_below_drewN | apply below_drew1 | refine below_set ?_ GE109.out | refine below_set ?_ GE110.out) | exact HB.out)⟩
              · rw [if_neg c51] at H
                have c51b0 : (a0_1 == 1) = false := beq_eq_false_iff_ne.mpr c51
                have c51b1 : (a0_1 != 1) = true := bne_iff_ne.mpr c51
                obtain rfl := Option.some.inj H
                have hnb59 := NB109_110.out
                have hnc59 := NB110_109.out
                have hcz60_0 : wc.cell? ⟨gb109, 0, none⟩ = some (.int .i64 a0_0) := (blk_cell BK109.out 0).trans rfl
                have hcz60_1 : wc.cell? ⟨gb109, 1, none⟩ = some (.int .i64 a0_1) := (blk_cell BK109.out 1).trans rfl
                have hcz60_2 : wc.cell? ⟨gb109, 2, none⟩ = some (.int .u64 a0_2) := (blk_cell BK109.out 2).trans rfl
                have hcz60_3 : wc.cell? ⟨gb109, 3, none⟩ = some (.int .i64 a0_3) := (blk_cell BK109.out 3).trans rfl
                have hcz60_4 : wc.cell? ⟨gb109, 4, none⟩ = some (.int .i64 a0_4) := (blk_cell BK109.out 4).trans rfl
                have hcz60_5 : wc.cell? ⟨gb109, 5, none⟩ = some (.int .i64 a0_5) := (blk_cell BK109.out 5).trans rfl
                have hfz60_0 := blk_frozen BK109.out 0
                have hfz60_1 := blk_frozen BK109.out 1
                have hfz60_2 := blk_frozen BK109.out 2
                have hfz60_3 := blk_frozen BK109.out 3
                have hfz60_4 := blk_frozen BK109.out 4
                have hfz60_5 := blk_frozen BK109.out 5
                go_wp2
                go_ret
                exact ⟨by first | rfl | (simp [errW_none, errW_some] <;> rfl) | (simp [*, errW_none, errW_some] <;> rfl), by repeat (first | (with_reducible first | exact HB.out | apply below_alloc | apply pw_below_drewN | apply below_drew1 | refine below_set ?_ GE109.out | refine below_set ?_ GE110.out) | exact HB.out)⟩
            · replace c50 := Bool.eq_false_iff.mpr c50
              subst c50
              have H1 : (if a0_0 = 22 then (if a1_0 = 1 then (if a1_1 = 0 then (some false) else (if a1_1 = a1_2 then (some (a0_1 == a1_1)) else (some false))) else (some false)) else (if a0_0 = 23 then (if a0_1 = 8 then (if a1_0 = 0 then (some (a1_1 == 64)) else (some false)) else (some false)) else (if a0_0 = 24 then (if a0_1 = 0 then (if a1_0 = 0 then (if a1_1 = 64 then (some (a1_2 == 8)) else (some false)) else (some false)) else (some false)) else ((term_Kids.f kj42 a0_0).bind fun t111 => (if t111 = 0 then ((term_leaf.f a0_0 a0_1 a0_2 a0_3 a0_4 a0_5).bind fun t112 => (some t112)) else (if a1_0 = 0 then (some false) else (if a1_0 = a1_1 then (some (a0_1 == a1_0)) else (some false)))))))) = some r := by rw [if_neg (show ¬ (false = true) by decide)] at H; exact H
              clear H
              have H := H1
              clear H1
              by_cases c61 : a0_0 = 22
              · rw [if_pos c61] at H
                have c61b0 : (a0_0 == 22) = true := beq_iff_eq.mpr c61
                have c61b1 : (a0_0 != 22) = false := bne_eq_false_iff_eq.mpr c61
                clear c61
                by_cases c62 : a1_0 = 1
                · rw [if_pos c62] at H
                  have c62b0 : (a1_0 == 1) = true := beq_iff_eq.mpr c62
                  have c62b1 : (a1_0 != 1) = false := bne_eq_false_iff_eq.mpr c62
                  clear c62
                  by_cases c63 : a1_1 = 0
                  · rw [if_pos c63] at H
                    have c63b0 : (a1_1 == 0) = true := beq_iff_eq.mpr c63
                    have c63b1 : (a1_1 != 0) = false := bne_eq_false_iff_eq.mpr c63
                    clear c63
                    obtain rfl := Option.some.inj H
                    have hnb64 := NB110_109.out
                    have hnc64 := NB109_110.out
                    have hcz65_0 : wc.cell? ⟨gb110, 0, none⟩ = some (.int .i64 a1_0) := (blk_cell BK110.out 0).trans rfl
                    have hcz65_1 : wc.cell? ⟨gb110, 1, none⟩ = some (.int .i64 a1_1) := (blk_cell BK110.out 1).trans rfl
                    have hcz65_2 : wc.cell? ⟨gb110, 2, none⟩ = some (.int .i64 a1_2) := (blk_cell BK110.out 2).trans rfl
                    have hfz65_0 := blk_frozen BK110.out 0
                    have hfz65_1 := blk_frozen BK110.out 1
                    have hfz65_2 := blk_frozen BK110.out 2
                    go_wp2
                    go_ret
                    exact ⟨by first | rfl | (simp [errW_none, errW_some] <;> rfl) | (simp [*, errW_none, errW_some] <;> rfl), by repeat (first | (with_reducible first | exact HB.out | apply below_alloc | apply pw_below_drewN | apply below_drew1 | refine below_set ?_ GE109.out | refine below_set ?_ GE110.out) | exact HB.out)⟩
                  · rw [if_neg c63] at H
                    have c63b0 : (a1_1 == 0) = false := beq_eq_false_iff_ne.mpr c63
                    have c63b1 : (a1_1 != 0) = true := bne_iff_ne.mpr c63
                    by_cases c66 : a1_1 = a1_2
                    · rw [if_pos c66] at H
                      have c66b0 : (a1_1 == a1_2) = true := beq_iff_eq.mpr c66
                      have c66b1 : (a1_1 != a1_2) = false := bne_eq_false_iff_eq.mpr c66
                      clear c66
                      obtain rfl := Option.some.inj H
                      have hnb67 := NB110_109.out
                      have hnc67 := NB109_110.out
                      have hcz68_0 : wc.cell? ⟨gb110, 0, none⟩ = some (.int .i64 a1_0) := (blk_cell BK110.out 0).trans rfl
                      have hcz68_1 : wc.cell? ⟨gb110, 1, none⟩ = some (.int .i64 a1_1) := (blk_cell BK110.out 1).trans rfl
                      have hcz68_2 : wc.cell? ⟨gb110, 2, none⟩ = some (.int .i64 a1_2) := (blk_cell BK110.out 2).trans rfl
                      have hfz68_0 := blk_frozen BK110.out 0
                      have hfz68_1 := blk_frozen BK110.out 1
                      have hfz68_2 := blk_frozen BK110.out 2
                      have hcz69_0 : wc.cell? ⟨gb109, 0, none⟩ = some (.int .i64 a0_0) := (blk_cell BK109.out 0).trans rfl
                      have hcz69_1 : wc.cell? ⟨gb109, 1, none⟩ = some (.int .i64 a0_1) := (blk_cell BK109.out 1).trans rfl
                      have hcz69_2 : wc.cell? ⟨gb109, 2, none⟩ = some (.int .u64 a0_2) := (blk_cell BK109.out 2).trans rfl
                      have hcz69_3 : wc.cell? ⟨gb109, 3, none⟩ = some (.int .i64 a0_3) := (blk_cell BK109.out 3).trans rfl
                      have hcz69_4 : wc.cell? ⟨gb109, 4, none⟩ = some (.int .i64 a0_4) := (blk_cell BK109.out 4).trans rfl
                      have hcz69_5 : wc.cell? ⟨gb109, 5, none⟩ = some (.int .i64 a0_5) := (blk_cell BK109.out 5).trans rfl
                      have hfz69_0 := blk_frozen BK109.out 0
                      have hfz69_1 := blk_frozen BK109.out 1
                      have hfz69_2 := blk_frozen BK109.out 2
                      have hfz69_3 := blk_frozen BK109.out 3
                      have hfz69_4 := blk_frozen BK109.out 4
                      have hfz69_5 := blk_frozen BK109.out 5
                      go_wp2
                      go_ret
                      exact ⟨by first | rfl | (simp [errW_none, errW_some] <;> rfl) | (simp [*, errW_none, errW_some] <;> rfl), by repeat (first | (with_reducible first | exact HB.out | apply below_alloc | apply pw_below_drewN | apply below_drew1 | refine below_set ?_ GE109.out | refine below_set ?_ GE110.out) | exact HB.out)⟩
                    · rw [if_neg c66] at H
                      have c66b0 : (a1_1 == a1_2) = false := beq_eq_false_iff_ne.mpr c66
                      have c66b1 : (a1_1 != a1_2) = true := bne_iff_ne.mpr c66
                      obtain rfl := Option.some.inj H
                      have hnb70 := NB110_109.out
                      have hnc70 := NB109_110.out
                      have hcz71_0 : wc.cell? ⟨gb110, 0, none⟩ = some (.int .i64 a1_0) := (blk_cell BK110.out 0).trans rfl
                      have hcz71_1 : wc.cell? ⟨gb110, 1, none⟩ = some (.int .i64 a1_1) := (blk_cell BK110.out 1).trans rfl
                      have hcz71_2 : wc.cell? ⟨gb110, 2, none⟩ = some (.int .i64 a1_2) := (blk_cell BK110.out 2).trans rfl
                      have hfz71_0 := blk_frozen BK110.out 0
                      have hfz71_1 := blk_frozen BK110.out 1
                      have hfz71_2 := blk_frozen BK110.out 2
                      go_wp2
                      go_ret
                      exact ⟨by first | rfl | (simp [errW_none, errW_some] <;> rfl) | (simp [*, errW_none, errW_some] <;> rfl), by repeat (first | (with_reducible first | exact HB.out | apply below_alloc | apply pw_below_drewN | apply below_drew1 | refine below_set ?_ GE109.out | refine below_set ?_ GE110.out) | exact HB.out)⟩
                · rw [if_neg c62] at H
                  have c62b0 : (a1_0 == 1) = false := beq_eq_false_iff_ne.mpr c62
                  have c62b1 : (a1_0 != 1) = true := bne_iff_ne.mpr c62
                  obtain rfl := Option.some.inj H
                  have hnb72 := NB110_109.out
                  have hnc72 := NB109_110.out
                  have hcz73_0 : wc.cell? ⟨gb110, 0, none⟩ = some (.int .i64 a1_0) := (blk_cell BK110.out 0).trans rfl
                  have hcz73_1 : wc.cell? ⟨gb110, 1, none⟩ = some (.int .i64 a1_1) := (blk_cell BK110.out 1).trans rfl
                  have hcz73_2 : wc.cell? ⟨gb110, 2, none⟩ = some (.int .i64 a1_2) := (blk_cell BK110.out 2).trans rfl
                  have hfz73_0 := blk_frozen BK110.out 0
                  have hfz73_1 := blk_frozen BK110.out 1
                  have hfz73_2 := blk_frozen BK110.out 2
                  go_wp2
                  go_ret
                  exact ⟨by first | rfl | (simp [errW_none, errW_some] <;> rfl) | (simp [*, errW_none, errW_some] <;> rfl), by repeat (first | (with_reducible first | exact HB.out | apply below_alloc | apply pw_below_drewN | apply below_drew1 | refine below_set ?_ GE109.out | refine below_set ?_ GE110.out) | exact HB.out)⟩
              · rw [if_neg c61] at H
                have c61b0 : (a0_0 == 22) = false := beq_eq_false_iff_ne.mpr c61
                have c61b1 : (a0_0 != 22) = true := bne_iff_ne.mpr c61
                by_cases c74 : a0_0 = 23
                · rw [if_pos c74] at H
                  have c74b0 : (a0_0 == 23) = true := beq_iff_eq.mpr c74
                  have c74b1 : (a0_0 != 23) = false := bne_eq_false_iff_eq.mpr c74
                  clear c74
                  by_cases c75 : a0_1 = 8
                  · rw [if_pos c75] at H
                    have c75b0 : (a0_1 == 8) = true := beq_iff_eq.mpr c75
                    have c75b1 : (a0_1 != 8) = false := bne_eq_false_iff_eq.mpr c75
                    clear c75
                    by_cases c76 : a1_0 = 0
                    · rw [if_pos c76] at H
                      have c76b0 : (a1_0 == 0) = true := beq_iff_eq.mpr c76
                      have c76b1 : (a1_0 != 0) = false := bne_eq_false_iff_eq.mpr c76
                      clear c76
                      obtain rfl := Option.some.inj H
                      have hnb77 := NB109_110.out
                      have hnc77 := NB110_109.out
                      have hcz78_0 : wc.cell? ⟨gb109, 0, none⟩ = some (.int .i64 a0_0) := (blk_cell BK109.out 0).trans rfl
                      have hcz78_1 : wc.cell? ⟨gb109, 1, none⟩ = some (.int .i64 a0_1) := (blk_cell BK109.out 1).trans rfl
                      have hcz78_2 : wc.cell? ⟨gb109, 2, none⟩ = some (.int .u64 a0_2) := (blk_cell BK109.out 2).trans rfl
                      have hcz78_3 : wc.cell? ⟨gb109, 3, none⟩ = some (.int .i64 a0_3) := (blk_cell BK109.out 3).trans rfl
                      have hcz78_4 : wc.cell? ⟨gb109, 4, none⟩ = some (.int .i64 a0_4) := (blk_cell BK109.out 4).trans rfl
                      have hcz78_5 : wc.cell? ⟨gb109, 5, none⟩ = some (.int .i64 a0_5) := (blk_cell BK109.out 5).trans rfl
                      have hfz78_0 := blk_frozen BK109.out 0
                      have hfz78_1 := blk_frozen BK109.out 1
                      have hfz78_2 := blk_frozen BK109.out 2
                      have hfz78_3 := blk_frozen BK109.out 3
                      have hfz78_4 := blk_frozen BK109.out 4
                      have hfz78_5 := blk_frozen BK109.out 5
                      have hcz79_0 : wc.cell? ⟨gb110, 0, none⟩ = some (.int .i64 a1_0) := (blk_cell BK110.out 0).trans rfl
                      have hcz79_1 : wc.cell? ⟨gb110, 1, none⟩ = some (.int .i64 a1_1) := (blk_cell BK110.out 1).trans rfl
                      have hcz79_2 : wc.cell? ⟨gb110, 2, none⟩ = some (.int .i64 a1_2) := (blk_cell BK110.out 2).trans rfl
                      have hfz79_0 := blk_frozen BK110.out 0
                      have hfz79_1 := blk_frozen BK110.out 1
                      have hfz79_2 := blk_frozen BK110.out 2
                      go_wp2
                      go_ret
                      exact ⟨by first | rfl | (simp [errW_none, errW_some] <;> rfl) | (simp [*, errW_none, errW_some] <;> rfl), by repeat (first | (with_reducible first | exact HB.out | apply below_alloc | apply pw_below_drewN | apply below_drew1 | refine below_set ?_ GE109.out | refine below_set ?_ GE110.out) | exact HB.out)⟩
                    · rw [if_neg c76] at H
                      have c76b0 : (a1_0 == 0) = false := beq_eq_false_iff_ne.mpr c76
                      have c76b1 : (a1_0 != 0) = true := bne_iff_ne.mpr c76
                      obtain rfl := Option.some.inj H
                      have hnb80 := NB109_110.out
                      have hnc80 := NB110_109.out
                      have hcz81_0 : wc.cell? ⟨gb109, 0, none⟩ = some (.int .i64 a0_0) := (blk_cell BK109.out 0).trans rfl
                      have hcz81_1 : wc.cell? ⟨gb109, 1, none⟩ = some (.int .i64 a0_1) := (blk_cell BK109.out 1).trans rfl
                      have hcz81_2 : wc.cell? ⟨gb109, 2, none⟩ = some (.int .u64 a0_2) := (blk_cell BK109.out 2).trans rfl
                      have hcz81_3 : wc.cell? ⟨gb109, 3, none⟩ = some (.int .i64 a0_3) := (blk_cell BK109.out 3).trans rfl
                      have hcz81_4 : wc.cell? ⟨gb109, 4, none⟩ = some (.int .i64 a0_4) := (blk_cell BK109.out 4).trans rfl
                      have hcz81_5 : wc.cell? ⟨gb109, 5, none⟩ = some (.int .i64 a0_5) := (blk_cell BK109.out 5).trans rfl
                      have hfz81_0 := blk_frozen BK109.out 0
                      have hfz81_1 := blk_frozen BK109.out 1
                      have hfz81_2 := blk_frozen BK109.out 2
                      have hfz81_3 := blk_frozen BK109.out 3
                      have hfz81_4 := blk_frozen BK109.out 4
                      have hfz81_5 := blk_frozen BK109.out 5
                      have hcz82_0 : wc.cell? ⟨gb110, 0, none⟩ = some (.int .i64 a1_0) := (blk_cell BK110.out 0).trans rfl
                      have hcz82_1 : wc.cell? ⟨gb110, 1, none⟩ = some (.int .i64 a1_1) := (blk_cell BK110.out 1).trans rfl
                      have hcz82_2 : wc.cell? ⟨gb110, 2, none⟩ = some (.int .i64 a1_2) := (blk_cell BK110.out 2).trans rfl
                      have hfz82_0 := blk_frozen BK110.out 0
                      have hfz82_1 := blk_frozen BK110.out 1
                      have hfz82_2 := blk_frozen BK110.out 2
                      go_wp2
                      go_ret
                      exact ⟨by first | rfl | (simp [errW_none, errW_some] <;> rfl) | (simp [*, errW_none, errW_some] <;> rfl), by repeat (first | (with_reducible first | exact HB.out | apply below_alloc | apply pw_below_drewN | apply below_drew1 | refine below_set ?_ GE109.out | refine below_set ?_ GE110.out) | exact HB.out)⟩
                  · rw [if_neg c75] at H
                    have c75b0 : (a0_1 == 8) = false := beq_eq_false_iff_ne.mpr c75
                    have c75b1 : (a0_1 != 8) = true := bne_iff_ne.mpr c75
                    obtain rfl := Option.some.inj H
                    have hnb83 := NB109_110.out
                    have hnc83 := NB110_109.out
                    have hcz84_0 : wc.cell? ⟨gb109, 0, none⟩ = some (.int .i64 a0_0) := (blk_cell BK109.out 0).trans rfl
                    have hcz84_1 : wc.cell? ⟨gb109, 1, none⟩ = some (.int .i64 a0_1) := (blk_cell BK109.out 1).trans rfl
                    have hcz84_2 : wc.cell? ⟨gb109, 2, none⟩ = some (.int .u64 a0_2) := (blk_cell BK109.out 2).trans rfl
                    have hcz84_3 : wc.cell? ⟨gb109, 3, none⟩ = some (.int .i64 a0_3) := (blk_cell BK109.out 3).trans rfl
                    have hcz84_4 : wc.cell? ⟨gb109, 4, none⟩ = some (.int .i64 a0_4) := (blk_cell BK109.out 4).trans rfl
                    have hcz84_5 : wc.cell? ⟨gb109, 5, none⟩ = some (.int .i64 a0_5) := (blk_cell BK109.out 5).trans rfl
                    have hfz84_0 := blk_frozen BK109.out 0
                    have hfz84_1 := blk_frozen BK109.out 1
                    have hfz84_2 := blk_frozen BK109.out 2
                    have hfz84_3 := blk_frozen BK109.out 3
                    have hfz84_4 := blk_frozen BK109.out 4
                    have hfz84_5 := blk_frozen BK109.out 5
                    go_wp2
                    go_ret
                    exact ⟨by first | rfl | (simp [errW_none, errW_some] <;> rfl) | (simp [*, errW_none, errW_some] <;> rfl), by repeat (first | (with_reducible first | exact HB.out | apply below_alloc | apply pw_below_drewN | apply below_drew1 | refine below_set ?_ GE109.out | refine below_set ?_ GE110.out) | exact HB.out)⟩
                · rw [if_neg c74] at H
                  have c74b0 : (a0_0 == 23) = false := beq_eq_false_iff_ne.mpr c74
                  have c74b1 : (a0_0 != 23) = true := bne_iff_ne.mpr c74
                  by_cases c85 : a0_0 = 24
                  · rw [if_pos c85] at H
                    have c85b0 : (a0_0 == 24) = true := beq_iff_eq.mpr c85
                    have c85b1 : (a0_0 != 24) = false := bne_eq_false_iff_eq.mpr c85
                    clear c85
                    by_cases c86 : a0_1 = 0
                    · rw [if_pos c86] at H
                      have c86b0 : (a0_1 == 0) = true := beq_iff_eq.mpr c86
                      have c86b1 : (a0_1 != 0) = false := bne_eq_false_iff_eq.mpr c86
                      clear c86
                      by_cases c87 : a1_0 = 0
                      · rw [if_pos c87] at H
                        have c87b0 : (a1_0 == 0) = true := beq_iff_eq.mpr c87
                        have c87b1 : (a1_0 != 0) = false := bne_eq_false_iff_eq.mpr c87
                        clear c87
                        by_cases c88 : a1_1 = 64
                        · rw [if_pos c88] at H
                          have c88b0 : (a1_1 == 64) = true := beq_iff_eq.mpr c88
                          have c88b1 : (a1_1 != 64) = false := bne_eq_false_iff_eq.mpr c88
                          clear c88
                          obtain rfl := Option.some.inj H
                          have hnb89 := NB109_110.out
                          have hnc89 := NB110_109.out
                          have hcz90_0 : wc.cell? ⟨gb109, 0, none⟩ = some (.int .i64 a0_0) := (blk_cell BK109.out 0).trans rfl
                          have hcz90_1 : wc.cell? ⟨gb109, 1, none⟩ = some (.int .i64 a0_1) := (blk_cell BK109.out 1).trans rfl
                          have hcz90_2 : wc.cell? ⟨gb109, 2, none⟩ = some (.int .u64 a0_2) := (blk_cell BK109.out 2).trans rfl
                          have hcz90_3 : wc.cell? ⟨gb109, 3, none⟩ = some (.int .i64 a0_3) := (blk_cell BK109.out 3).trans rfl
                          have hcz90_4 : wc.cell? ⟨gb109, 4, none⟩ = some (.int .i64 a0_4) := (blk_cell BK109.out 4).trans rfl
                          have hcz90_5 : wc.cell? ⟨gb109, 5, none⟩ = some (.int .i64 a0_5) := (blk_cell BK109.out 5).trans rfl
                          have hfz90_0 := blk_frozen BK109.out 0
                          have hfz90_1 := blk_frozen BK109.out 1
                          have hfz90_2 := blk_frozen BK109.out 2
                          have hfz90_3 := blk_frozen BK109.out 3
                          have hfz90_4 := blk_frozen BK109.out 4
                          have hfz90_5 := blk_frozen BK109.out 5
                          have hcz91_0 : wc.cell? ⟨gb110, 0, none⟩ = some (.int .i64 a1_0) := (blk_cell BK110.out 0).trans rfl
                          have hcz91_1 : wc.cell? ⟨gb110, 1, none⟩ = some (.int .i64 a1_1) := (blk_cell BK110.out 1).trans rfl
                          have hcz91_2 : wc.cell? ⟨gb110, 2, none⟩ = some (.int .i64 a1_2) := (blk_cell BK110.out 2).trans rfl
                          have hfz91_0 := blk_frozen BK110.out 0
                          have hfz91_1 := blk_frozen BK110.out 1
                          have hfz91_2 := blk_frozen BK110.out 2
                          go_wp2
                          go_ret
                          exact ⟨by first | rfl | (simp [errW_none, errW_some] <;> rfl) | (simp [*, errW_none, errW_some] <;> rfl), by repeat (first | (with_reducible first | exact HB.out | apply below_alloc | apply pw_below_drewN | apply below_drew1 | refine below_set ?_ GE109.out | refine below_set ?_ GE110.out) | exact HB.out)⟩
                        · rw [if_neg c88] at H
                          have c88b0 : (a1_1 == 64) = false := beq_eq_false_iff_ne.mpr c88
                          have c88b1 : (a1_1 != 64) = true := bne_iff_ne.mpr c88
                          obtain rfl := Option.some.inj H
                          have hnb92 := NB109_110.out
                          have hnc92 := NB110_109.out
                          have hcz93_0 : wc.cell? ⟨gb109, 0, none⟩ = some (.int .i64 a0_0) := (blk_cell BK109.out 0).trans rfl
                          have hcz93_1 : wc.cell? ⟨gb109, 1, none⟩ = some (.int .i64 a0_1) := (blk_cell BK109.out 1).trans rfl
                          have hcz93_2 : wc.cell? ⟨gb109, 2, none⟩ = some (.int .u64 a0_2) := (blk_cell BK109.out 2).trans rfl
                          have hcz93_3 : wc.cell? ⟨gb109, 3, none⟩ = some (.int .i64 a0_3) := (blk_cell BK109.out 3).trans rfl
                          have hcz93_4 : wc.cell? ⟨gb109, 4, none⟩ = some (.int .i64 a0_4) := (blk_cell BK109.out 4).trans rfl
                          have hcz93_5 : wc.cell? ⟨gb109, 5, none⟩ = some (.int .i64 a0_5) := (blk_cell BK109.out 5).trans rfl
                          have hfz93_0 := blk_frozen BK109.out 0
                          have hfz93_1 := blk_frozen BK109.out 1
                          have hfz93_2 := blk_frozen BK109.out 2
                          have hfz93_3 := blk_frozen BK109.out 3
                          have hfz93_4 := blk_frozen BK109.out 4
                          have hfz93_5 := blk_frozen BK109.out 5
                          have hcz94_0 : wc.cell? ⟨gb110, 0, none⟩ = some (.int .i64 a1_0) := (blk_cell BK110.out 0).trans rfl
                          have hcz94_1 : wc.cell? ⟨gb110, 1, none⟩ = some (.int .i64 a1_1) := (blk_cell BK110.out 1).trans rfl
                          have hcz94_2 : wc.cell? ⟨gb110, 2, none⟩ = some (.int .i64 a1_2) := (blk_cell BK110.out 2).trans rfl
                          have hfz94_0 := blk_frozen BK110.out 0
                          have hfz94_1 := blk_frozen BK110.out 1
                          have hfz94_2 := blk_frozen BK110.out 2
                          go_wp2
                          go_ret
                          exact ⟨by first | rfl | (simp [errW_none, errW_some] <;> rfl) | (simp [*, errW_none, errW_some] <;> rfl), by repeat (first | (with_reducible first | exact HB.out | apply below_alloc | apply pw_below_drewN | apply below_drew1 | refine below_set ?_ GE109.out | refine below_set ?_ GE110.out) | exact HB.out)⟩
                      · rw [if_neg c87] at H
                        have c87b0 : (a1_0 == 0) = false := beq_eq_false_iff_ne.mpr c87
                        have c87b1 : (a1_0 != 0) = true := bne_iff_ne.mpr c87
                        obtain rfl := Option.some.inj H
                        have hnb95 := NB109_110.out
                        have hnc95 := NB110_109.out
                        have hcz96_0 : wc.cell? ⟨gb109, 0, none⟩ = some (.int .i64 a0_0) := (blk_cell BK109.out 0).trans rfl
                        have hcz96_1 : wc.cell? ⟨gb109, 1, none⟩ = some (.int .i64 a0_1) := (blk_cell BK109.out 1).trans rfl
                        have hcz96_2 : wc.cell? ⟨gb109, 2, none⟩ = some (.int .u64 a0_2) := (blk_cell BK109.out 2).trans rfl
                        have hcz96_3 : wc.cell? ⟨gb109, 3, none⟩ = some (.int .i64 a0_3) := (blk_cell BK109.out 3).trans rfl
                        have hcz96_4 : wc.cell? ⟨gb109, 4, none⟩ = some (.int .i64 a0_4) := (blk_cell BK109.out 4).trans rfl
                        have hcz96_5 : wc.cell? ⟨gb109, 5, none⟩ = some (.int .i64 a0_5) := (blk_cell BK109.out 5).trans rfl
                        have hfz96_0 := blk_frozen BK109.out 0
                        have hfz96_1 := blk_frozen BK109.out 1
                        have hfz96_2 := blk_frozen BK109.out 2
                        have hfz96_3 := blk_frozen BK109.out 3
                        have hfz96_4 := blk_frozen BK109.out 4
                        have hfz96_5 := blk_frozen BK109.out 5
                        have hcz97_0 : wc.cell? ⟨gb110, 0, none⟩ = some (.int .i64 a1_0) := (blk_cell BK110.out 0).trans rfl
                        have hcz97_1 : wc.cell? ⟨gb110, 1, none⟩ = some (.int .i64 a1_1) := (blk_cell BK110.out 1).trans rfl
                        have hcz97_2 : wc.cell? ⟨gb110, 2, none⟩ = some (.int .i64 a1_2) := (blk_cell BK110.out 2).trans rfl
                        have hfz97_0 := blk_frozen BK110.out 0
                        have hfz97_1 := blk_frozen BK110.out 1
                        have hfz97_2 := blk_frozen BK110.out 2
                        go_wp2
                        go_ret
                        exact ⟨by first | rfl | (simp [errW_none, errW_some] <;> rfl) | (simp [*, errW_none, errW_some] <;> rfl), by repeat (first | (with_reducible first | exact HB.out | apply below_alloc | apply pw_below_drewN | apply below_drew1 | refine below_set ?_ GE109.out | refine below_set ?_ GE110.out) | exact HB.out)⟩
                    · rw [if_neg c86] at H
                      have c86b0 : (a0_1 == 0) = false := beq_eq_false_iff_ne.mpr c86
                      have c86b1 : (a0_1 != 0) = true := bne_iff_ne.mpr c86
                      obtain rfl := Option.some.inj H
                      have hnb98 := NB109_110.out
                      have hnc98 := NB110_109.out
                      have hcz99_0 : wc.cell? ⟨gb109, 0, none⟩ = some (.int .i64 a0_0) := (blk_cell BK109.out 0).trans rfl
                      have hcz99_1 : wc.cell? ⟨gb109, 1, none⟩ = some (.int .i64 a0_1) := (blk_cell BK109.out 1).trans rfl
                      have hcz99_2 : wc.cell? ⟨gb109, 2, none⟩ = some (.int .u64 a0_2) := (blk_cell BK109.out 2).trans rfl
                      have hcz99_3 : wc.cell? ⟨gb109, 3, none⟩ = some (.int .i64 a0_3) := (blk_cell BK109.out 3).trans rfl
                      have hcz99_4 : wc.cell? ⟨gb109, 4, none⟩ = some (.int .i64 a0_4) := (blk_cell BK109.out 4).trans rfl
                      have hcz99_5 : wc.cell? ⟨gb109, 5, none⟩ = some (.int .i64 a0_5) := (blk_cell BK109.out 5).trans rfl
                      have hfz99_0 := blk_frozen BK109.out 0
                      have hfz99_1 := blk_frozen BK109.out 1
                      have hfz99_2 := blk_frozen BK109.out 2
                      have hfz99_3 := blk_frozen BK109.out 3
                      have hfz99_4 := blk_frozen BK109.out 4
                      have hfz99_5 := blk_frozen BK109.out 5
                      go_wp2
                      go_ret
                      exact ⟨by first | rfl | (simp [errW_none, errW_some] <;> rfl) | (simp [*, errW_none, errW_some] <;> rfl), by repeat (first | (with_reducible first | exact HB.out | apply below_alloc | apply pw_below_drewN | apply below_drew1 | refine below_set ?_ GE109.out | refine below_set ?_ GE110.out) | exact HB.out)⟩
                  · rw [if_neg c85] at H
                    have c85b0 : (a0_0 == 24) = false := beq_eq_false_iff_ne.mpr c85
                    have c85b1 : (a0_0 != 24) = true := bne_iff_ne.mpr c85
                    replace H := Option.bind_eq_some_iff.mp H
                    obtain ⟨t111, A1000, H⟩ := H
                    replace H : (if t111 = 0 then ((term_leaf.f a0_0 a0_1 a0_2 a0_3 a0_4 a0_5).bind fun t112 => (some t112)) else (if a1_0 = 0 then (some false) else (if a1_0 = a1_1 then (some (a0_1 == a1_0)) else (some false)))) = some r := H
                    have A100 := Aside0.mk A1000
                    clear A1000
                    by_cases c101 : t111 = 0
                    · rw [if_pos c101] at H
                      have c101b0 : (t111 == 0) = true := beq_iff_eq.mpr c101
                      have c101b1 : (t111 != 0) = false := bne_eq_false_iff_eq.mpr c101
                      clear c101
                      replace H := Option.bind_eq_some_iff.mp H
                      obtain ⟨t112, A1020, H⟩ := H
                      replace H : (some t112) = some r := H
                      have A102 := Aside0.mk A1020
                      clear A1020
                      obtain rfl := Option.some.inj H
                      have hnb103 := NB109_110.out
                      have hnc103 := NB110_109.out
                      have hcz104_0 : wc.cell? ⟨gb109, 0, none⟩ = some (.int .i64 a0_0) := (blk_cell BK109.out 0).trans rfl
                      have hcz104_1 : wc.cell? ⟨gb109, 1, none⟩ = some (.int .i64 a0_1) := (blk_cell BK109.out 1).trans rfl
                      have hcz104_2 : wc.cell? ⟨gb109, 2, none⟩ = some (.int .u64 a0_2) := (blk_cell BK109.out 2).trans rfl
                      have hcz104_3 : wc.cell? ⟨gb109, 3, none⟩ = some (.int .i64 a0_3) := (blk_cell BK109.out 3).trans rfl
                      have hcz104_4 : wc.cell? ⟨gb109, 4, none⟩ = some (.int .i64 a0_4) := (blk_cell BK109.out 4).trans rfl
                      have hcz104_5 : wc.cell? ⟨gb109, 5, none⟩ = some (.int .i64 a0_5) := (blk_cell BK109.out 5).trans rfl
                      have hfz104_0 := blk_frozen BK109.out 0
                      have hfz104_1 := blk_frozen BK109.out 1
                      have hfz104_2 := blk_frozen BK109.out 2
                      have hfz104_3 := blk_frozen BK109.out 3
                      have hfz104_4 := blk_frozen BK109.out 4
                      have hfz104_5 := blk_frozen BK109.out 5
                      go_wp2_with (first | ((with_reducible refine gate_callee (f := 21) rfl ?_); refine goesL_ (some 124) rfl rfl Try.func21 (by kernel_rfl) rfl #[.int .i64 a0_0] rfl (by (try simp only [List.map_toArray, List.map_cons, List.map_nil]); first | done | rfl | (simp only [List.length_drop, List.length_take]; rfl)) ?_; (with_reducible refine (term_Kids.calls kj42 a0_0 t111 _ A100.out).mono ?_); rintro e w' ⟨rfl, ⟨nd, rfl⟩⟩; refine ⟨_, rfl, ?_⟩) | ((with_reducible refine gate_callee (f := 39) rfl ?_); refine goesL_ (some 127) rfl rfl Try.func39 (by kernel_rfl) rfl #[.agg #[.int .i64 a0_0, .int .i64 a0_1, .int .u64 a0_2, .int .i64 a0_3, .int .i64 a0_4, .int .i64 a0_5]] rfl (by (try simp only [List.map_toArray, List.map_cons, List.map_nil]); first | done | rfl | (simp only [List.length_drop, List.length_take]; rfl)) ?_; (with_reducible refine (term_leaf.calls a0_0 a0_1 a0_2 a0_3 a0_4 a0_5 t112 _ A102.out).mono ?_); rintro e w105 ⟨rfl, hb⟩; refine ⟨_, rfl, ?_⟩; have n0_ := Aside0.mk (blk_below (g := gb109) (o := .cells #[.int .i64 a0_0, .int .i64 a0_1, .int .u64 a0_2, .int .i64 a0_3, .int .i64 a0_4, .int .i64 a0_5] 32 (0, 0)) (by (with_reducible repeat (first | refine blk_drewN ?_ _ | refine blk_drew ?_ | refine blk_alloc ?_ _)); exact BK109.out) hb); have n1_ := Aside0.mk (blk_below (g := gb110) (o := .cells #[.int .i64 a1_0, .int .i64 a1_1, .int .i64 a1_2] 30 (0, 0)) (by (with_reducible repeat (first | refine blk_drewN ?_ _ | refine blk_drew ?_ | refine blk_alloc ?_ _)); exact BK110.out) hb); have n2_ := Aside0.mk (below_step (by repeat (first | (with_reducible first | exact HB.out | apply below_alloc | apply pw_below_drewN | apply below_drew1 | refine below_set ?_ GE109.out | refine below_set ?_ GE110.out) | exact HB.out)) hb); clear BK109; clear BK110; clear HB; have BK109 := n0_; have BK110 := n1_; have HB := n2_; clear n0_ n1_ n2_; (try clear hb); (try clear hb2); (try clear hk); (try clear hi)))
                      go_ret
                      exact ⟨by first | rfl | (simp [errW_none, errW_some] <;> rfl) | (simp [*, errW_none, errW_some] <;> rfl), by repeat (first | (with_reducible first | exact HB.out | apply below_alloc | apply pw_below_drewN | apply below_drew1 | refine below_set ?_ GE109.out | refine below_set ?_ GE110.out) | exact HB.out)⟩
                    · rw [if_neg c101] at H
                      have c101b0 : (t111 == 0) = false := beq_eq_false_iff_ne.mpr c101
                      have c101b1 : (t111 != 0) = true := bne_iff_ne.mpr c101
                      by_cases c106 : a1_0 = 0
                      · rw [if_pos c106] at H
                        have c106b0 : (a1_0 == 0) = true := beq_iff_eq.mpr c106
                        have c106b1 : (a1_0 != 0) = false := bne_eq_false_iff_eq.mpr c106
                        clear c106
                        obtain rfl := Option.some.inj H
                        have hnb107 := NB109_110.out
                        have hnc107 := NB110_109.out
                        have hcz108_0 : wc.cell? ⟨gb109, 0, none⟩ = some (.int .i64 a0_0) := (blk_cell BK109.out 0).trans rfl
                        have hcz108_1 : wc.cell? ⟨gb109, 1, none⟩ = some (.int .i64 a0_1) := (blk_cell BK109.out 1).trans rfl
                        have hcz108_2 : wc.cell? ⟨gb109, 2, none⟩ = some (.int .u64 a0_2) := (blk_cell BK109.out 2).trans rfl
                        have hcz108_3 : wc.cell? ⟨gb109, 3, none⟩ = some (.int .i64 a0_3) := (blk_cell BK109.out 3).trans rfl
                        have hcz108_4 : wc.cell? ⟨gb109, 4, none⟩ = some (.int .i64 a0_4) := (blk_cell BK109.out 4).trans rfl
                        have hcz108_5 : wc.cell? ⟨gb109, 5, none⟩ = some (.int .i64 a0_5) := (blk_cell BK109.out 5).trans rfl
                        have hfz108_0 := blk_frozen BK109.out 0
                        have hfz108_1 := blk_frozen BK109.out 1
                        have hfz108_2 := blk_frozen BK109.out 2
                        have hfz108_3 := blk_frozen BK109.out 3
                        have hfz108_4 := blk_frozen BK109.out 4
                        have hfz108_5 := blk_frozen BK109.out 5
                        go_wp2_with (first | ((with_reducible refine gate_callee (f := 21) rfl ?_); refine goesL_ (some 124) rfl rfl Try.func21 (by kernel_rfl) rfl #[.int .i64 a0_0] rfl (by (try simp only [List.map_toArray, List.map_cons, List.map_nil]); first | done | rfl | (simp only [List.length_drop, List.length_take]; rfl)) ?_; (with_reducible refine (term_Kids.calls kj42 a0_0 t111 _ A100.out).mono ?_); rintro e w' ⟨rfl, ⟨nd, rfl⟩⟩; refine ⟨_, rfl, ?_⟩; have hcz109_0 : wc.cell? ⟨gb110, 0, none⟩ = some (.int .i64 a1_0) := (blk_cell BK110.out 0).trans rfl; have hcz109_1 : wc.cell? ⟨gb110, 1, none⟩ = some (.int .i64 a1_1) := (blk_cell BK110.out 1).trans rfl; have hcz109_2 : wc.cell? ⟨gb110, 2, none⟩ = some (.int .i64 a1_2) := (blk_cell BK110.out 2).trans rfl; have hfz109_0 := blk_frozen BK110.out 0; have hfz109_1 := blk_frozen BK110.out 1; have hfz109_2 := blk_frozen BK110.out 2))
                        go_ret
                        exact ⟨by first | rfl | (simp [errW_none, errW_some] <;> rfl) | (simp [*, errW_none, errW_some] <;> rfl), by repeat (first | (with_reducible first | exact HB.out | apply below_alloc | apply pw_below_drewN | apply below_drew1 | refine below_set ?_ GE109.out | refine below_set ?_ GE110.out) | exact HB.out)⟩
                      · rw [if_neg c106] at H
                        have c106b0 : (a1_0 == 0) = false := beq_eq_false_iff_ne.mpr c106
                        have c106b1 : (a1_0 != 0) = true := bne_iff_ne.mpr c106
                        by_cases c110 : a1_0 = a1_1
                        · rw [if_pos c110] at H
                          have c110b0 : (a1_0 == a1_1) = true := beq_iff_eq.mpr c110
                          have c110b1 : (a1_0 != a1_1) = false := bne_eq_false_iff_eq.mpr c110
                          clear c110
                          obtain rfl := Option.some.inj H
                          have hnb111 := NB109_110.out
                          have hnc111 := NB110_109.out
                          have hcz112_0 : wc.cell? ⟨gb109, 0, none⟩ = some (.int .i64 a0_0) := (blk_cell BK109.out 0).trans rfl
                          have hcz112_1 : wc.cell? ⟨gb109, 1, none⟩ = some (.int .i64 a0_1) := (blk_cell BK109.out 1).trans rfl
                          have hcz112_2 : wc.cell? ⟨gb109, 2, none⟩ = some (.int .u64 a0_2) := (blk_cell BK109.out 2).trans rfl
                          have hcz112_3 : wc.cell? ⟨gb109, 3, none⟩ = some (.int .i64 a0_3) := (blk_cell BK109.out 3).trans rfl
                          have hcz112_4 : wc.cell? ⟨gb109, 4, none⟩ = some (.int .i64 a0_4) := (blk_cell BK109.out 4).trans rfl
                          have hcz112_5 : wc.cell? ⟨gb109, 5, none⟩ = some (.int .i64 a0_5) := (blk_cell BK109.out 5).trans rfl
                          have hfz112_0 := blk_frozen BK109.out 0
                          have hfz112_1 := blk_frozen BK109.out 1
                          have hfz112_2 := blk_frozen BK109.out 2
                          have hfz112_3 := blk_frozen BK109.out 3
                          have hfz112_4 := blk_frozen BK109.out 4
                          have hfz112_5 := blk_frozen BK109.out 5
                          go_wp2_with (first | ((with_reducible refine gate_callee (f := 21) rfl ?_); refine goesL_ (some 124) rfl rfl Try.func21 (by kernel_rfl) rfl #[.int .i64 a0_0] rfl (by (try simp only [List.map_toArray, List.map_cons, List.map_nil]); first | done | rfl | (simp only [List.length_drop, List.length_take]; rfl)) ?_; (with_reducible refine (term_Kids.calls kj42 a0_0 t111 _ A100.out).mono ?_); rintro e w' ⟨rfl, ⟨nd, rfl⟩⟩; refine ⟨_, rfl, ?_⟩; have hcz113_0 : wc.cell? ⟨gb110, 0, none⟩ = some (.int .i64 a1_0) := (blk_cell BK110.out 0).trans rfl; have hcz113_1 : wc.cell? ⟨gb110, 1, none⟩ = some (.int .i64 a1_1) := (blk_cell BK110.out 1).trans rfl; have hcz113_2 : wc.cell? ⟨gb110, 2, none⟩ = some (.int .i64 a1_2) := (blk_cell BK110.out 2).trans rfl; have hfz113_0 := blk_frozen BK110.out 0; have hfz113_1 := blk_frozen BK110.out 1; have hfz113_2 := blk_frozen BK110.out 2))
                          go_ret
                          exact ⟨by first | rfl | (simp [errW_none, errW_some] <;> rfl) | (simp [*, errW_none, errW_some] <;> rfl), by repeat (first | (with_reducible first | exact HB.out | apply below_alloc | apply pw_below_drewN | apply below_drew1 | refine below_set ?_ GE109.out | refine below_set ?_ GE110.out) | exact HB.out)⟩
                        · rw [if_neg c110] at H
                          have c110b0 : (a1_0 == a1_1) = false := beq_eq_false_iff_ne.mpr c110
                          have c110b1 : (a1_0 != a1_1) = true := bne_iff_ne.mpr c110
                          obtain rfl := Option.some.inj H
                          have hnb114 := NB109_110.out
                          have hnc114 := NB110_109.out
                          have hcz115_0 : wc.cell? ⟨gb109, 0, none⟩ = some (.int .i64 a0_0) := (blk_cell BK109.out 0).trans rfl
                          have hcz115_1 : wc.cell? ⟨gb109, 1, none⟩ = some (.int .i64 a0_1) := (blk_cell BK109.out 1).trans rfl
                          have hcz115_2 : wc.cell? ⟨gb109, 2, none⟩ = some (.int .u64 a0_2) := (blk_cell BK109.out 2).trans rfl
                          have hcz115_3 : wc.cell? ⟨gb109, 3, none⟩ = some (.int .i64 a0_3) := (blk_cell BK109.out 3).trans rfl
                          have hcz115_4 : wc.cell? ⟨gb109, 4, none⟩ = some (.int .i64 a0_4) := (blk_cell BK109.out 4).trans rfl
                          have hcz115_5 : wc.cell? ⟨gb109, 5, none⟩ = some (.int .i64 a0_5) := (blk_cell BK109.out 5).trans rfl
                          have hfz115_0 := blk_frozen BK109.out 0
                          have hfz115_1 := blk_frozen BK109.out 1
                          have hfz115_2 := blk_frozen BK109.out 2
                          have hfz115_3 := blk_frozen BK109.out 3
                          have hfz115_4 := blk_frozen BK109.out 4
                          have hfz115_5 := blk_frozen BK109.out 5
                          go_wp2_with (first | ((with_reducible refine gate_callee (f := 21) rfl ?_); refine goesL_ (some 124) rfl rfl Try.func21 (by kernel_rfl) rfl #[.int .i64 a0_0] rfl (by (try simp only [List.map_toArray, List.map_cons, List.map_nil]); first | done | rfl | (simp only [List.length_drop, List.length_take]; rfl)) ?_; (with_reducible refine (term_Kids.calls kj42 a0_0 t111 _ A100.out).mono ?_); rintro e w' ⟨rfl, ⟨nd, rfl⟩⟩; refine ⟨_, rfl, ?_⟩; have hcz116_0 : wc.cell? ⟨gb110, 0, none⟩ = some (.int .i64 a1_0) := (blk_cell BK110.out 0).trans rfl; have hcz116_1 : wc.cell? ⟨gb110, 1, none⟩ = some (.int .i64 a1_1) := (blk_cell BK110.out 1).trans rfl; have hcz116_2 : wc.cell? ⟨gb110, 2, none⟩ = some (.int .i64 a1_2) := (blk_cell BK110.out 2).trans rfl; have hfz116_0 := blk_frozen BK110.out 0; have hfz116_1 := blk_frozen BK110.out 1; have hfz116_2 := blk_frozen BK110.out 2))
                          go_ret
                          exact ⟨by first | rfl | (simp [errW_none, errW_some] <;> rfl) | (simp [*, errW_none, errW_some] <;> rfl), by repeat (first | (with_reducible first | exact HB.out | apply below_alloc | apply pw_below_drewN | apply below_drew1 | refine below_set ?_ GE109.out | refine below_set ?_ GE110.out) | exact HB.out)⟩

end Go.Proofs.Ytkindfbbklkjdaa.P
