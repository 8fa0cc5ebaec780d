/- What Go functions compute, and their walks: written by a program of this session (a turned copy of the kit's print) out of the translation. -/
import Derived.Test.YtkindfbbklkjdaaPx0
import Derived.Test.YtkindfbbklkjdaaPx3
namespace Go.Proofs.Ytkindfbbklkjdaa.P
open Go.RowKit Go.Proofs.YtkindfbbklkjdaaW.PrintWords Go.Proofs.YtkindfbbklkjdaaW.PrintLast Go.Proofs.YtkindfbbklkjdaaW.PrintMore
attribute [local go_sem] max2_int min2_int max_two min_two max_three min_three max_four min_four   -- for this text's walks alone
set_option linter.unusedVariables false
set_option linter.unusedSimpArgs false

/-! ### term_moved: function 30 -/
def term_moved.l0 : Nat → List Int → Int → Int → Int → Int → Int → Int → Int → Int → Option (Int × Int × Int × Int × Int × Int)
  | 0, _, _, _, _, _, _, _, _, _ => none
  | k + 1, x1, x8, x9, x123000, x123001, x123002, x123003, x123004, x123005 => if x9 < x8 then (if x9 = 0 then (if 0 ≤ x123003 then (if x123003 < (x1.length : Int) then (term_moved.l0 k x1 x8 (wrap64 (x9 + 1)) x123000 x123001 x123002 (rd x1 x123003) x123004 x123005) else (none)) else (none)) else (if x9 = 1 then (if 0 ≤ x123004 then (if x123004 < (x1.length : Int) then (term_moved.l0 k x1 x8 (wrap64 (x9 + 1)) x123000 x123001 x123002 x123003 (rd x1 x123004) x123005) else (none)) else (none)) else (if x9 = 2 then (if 0 ≤ x123005 then (if x123005 < (x1.length : Int) then (term_moved.l0 k x1 x8 (wrap64 (x9 + 1)) x123000 x123001 x123002 x123003 x123004 (rd x1 x123005)) else (none)) else (none)) else (none)))) else (some (x123000, x123001, x123002, x123003, x123004, x123005))
def term_moved.f (k : Nat) (a0_0 : Int) (a0_1 : Int) (a0_2 : Int) (a0_3 : Int) (a0_4 : Int) (a0_5 : Int) (l1 : List Int) : Option (Int × Int × Int × Int × Int × Int) := (term_Kids.f k a0_0).bind fun t124 => (term_moved.l0 k l1 t124 0 a0_0 a0_1 a0_2 a0_3 a0_4 a0_5)
theorem term_moved.mono_l : ∀ k, (∀ y0 y1 y2 y3 y4 y5 y6 y7 y8, LeO (term_moved.l0 k y0 y1 y2 y3 y4 y5 y6 y7 y8) (term_moved.l0 (k + 1) y0 y1 y2 y3 y4 y5 y6 y7 y8))
  | 0 => fun _ _ _ _ _ _ _ _ _ r h => by simp [term_moved.l0] at h
  | k + 1 => by
    have ih0 := term_moved.mono_l k
    · intro y0 y1 y2 y3 y4 y5 y6 y7 y8
      unfold term_moved.l0
      repeat' first
      | (with_reducible exact ih0 _ _ _ _ _ _ _ _ _)
      | (with_reducible exact term_Kids.mono _ _)
      | (with_reducible exact LeO.refl _)
      | (with_reducible exact LeO.none _)
      | (with_reducible refine LeO.ite ?_ ?_)
      | (with_reducible refine LeO.bind ?_ (fun _ => ?_))
      | exact ih0 _ _ _ _ _ _ _ _ _
      | exact term_Kids.mono _ _
      | exact LeO.none _
      | refine LeO.ite ?_ ?_
      | refine LeO.bind ?_ (fun _ => ?_)
theorem term_moved.mono : ∀ a0 a1 a2 a3 a4 a5 a6 k, LeO (term_moved.f k a0 a1 a2 a3 a4 a5 a6) (term_moved.f (k + 1) a0 a1 a2 a3 a4 a5 a6) := by
  intro a0 a1 a2 a3 a4 a5 a6 k
  have ih0 := term_moved.mono_l k
  unfold term_moved.f
  repeat' first
      | (with_reducible exact ih0 _ _ _ _ _ _ _ _ _)
      | (with_reducible exact term_Kids.mono _ _)
      | (with_reducible exact LeO.refl _)
      | (with_reducible exact LeO.none _)
      | (with_reducible refine LeO.ite ?_ ?_)
      | (with_reducible refine LeO.bind ?_ (fun _ => ?_))
      | exact ih0 _ _ _ _ _ _ _ _ _
      | exact term_Kids.mono _ _
      | exact LeO.none _
      | refine LeO.ite ?_ ?_
      | refine LeO.bind ?_ (fun _ => ?_)
set_option maxHeartbeats 8000000 in
set_option maxRecDepth 100000 in
theorem term_moved.calls (k : Nat) (a0_0 : Int) (a0_1 : Int) (a0_2 : Int) (a0_3 : Int) (a0_4 : Int) (a0_5 : Int) (A1 : Option Addr) (c1 : Nat) (l1 : List Int) (r1 : Int) (r2 : Int) (r3 : Int) (r4 : Int) (r5 : Int) (r6 : Int) (w : World) (hr1 : Kd.C (Kd.int .i64) w A1 l1.length l1) (hc1 : l1.length ≤ c1) (h : term_moved.f k a0_0 a0_1 a0_2 a0_3 a0_4 a0_5 l1 = some (r1, r2, r3, r4, r5, r6)) :
    Calls Try.prog 30 #[.agg #[.int .i64 a0_0, .int .i64 a0_1, .int .u64 a0_2, .int .i64 a0_3, .int .i64 a0_4, .int .i64 a0_5], .slice A1 l1.length c1] w fun e w' => e = .returned (.agg #[.int .i64 r1, .int .i64 r2, .int .u64 r3, .int .i64 r4, .int .i64 r5, .int .i64 r6]) ∧ Below w.heap.size w w' := by
  have hu32 := Try.underlying32
  have HR1 := Aside0.mk hr1
  have HC1 := Aside0.mk hc1
  clear hr1 hc1
  have HB := Aside0.mk (Below.refl w.heap.size w)
  have H : ((term_Kids.f k a0_0).bind fun t124 => (term_moved.l0 k l1 t124 0 a0_0 a0_1 a0_2 a0_3 a0_4 a0_5)) = some (r1, r2, r3, r4, r5, r6) := h
  clear h
  replace H := Option.bind_eq_some_iff.mp H
  obtain ⟨t124, A30, H⟩ := H
  replace H : (term_moved.l0 k l1 t124 0 a0_0 a0_1 a0_2 a0_3 a0_4 a0_5) = some (r1, r2, r3, r4, r5, r6) := H
  have A3 := Aside0.mk A30
  clear A30
  have H' := Aside0.mk H
  clear H
  go_enter Try.func30, Try.ntmps30
  go_wp2_with (first | ((with_reducible refine gate_dst (N := 2) rfl ?_); refine box_event ?hg (N := 2) ?hd (cs := #[.int .i64 a0_0, .int .i64 a0_1, .int .u64 a0_2, .int .i64 a0_3, .int .i64 a0_4, .int .i64 a0_5]) (t := 32) ?hr ?_; (case hd => rfl); (case hg => rfl); (case hr => first | (go_simp; done) | (go_simp; rfl)); intro gb122 hg w4 hbox hb; have n0_ := Aside0.mk (below_step (by repeat (first | (with_reducible first | exact HB.out | apply below_alloc | apply pw_below_drewN | apply below_drew1) | exact HB.out)) hb); have n1_ := Aside0.mk (hbox); have n2_ := Aside0.mk ((by rw [hg]; exact (below_size (by repeat (first | (with_reducible first | exact HB.out | apply below_alloc | apply pw_below_drewN | apply below_drew1) | exact HB.out))) : w.heap.size ≤ gb122)); have n3_ := Aside0.mk ((by rw [hg]; exact (below_size (by repeat (first | (with_reducible first | exact HB.out | apply below_alloc | apply pw_below_drewN | apply below_drew1) | exact HB.out))) : w.heap.size ≤ gb122)); clear HB; have HB := n0_; have BK122 := n1_; have GW122 := n2_; have GE122 := n3_; clear n0_ n1_ n2_ n3_; clear hb hbox hg) | ((with_reducible refine gate_dst (N := 4) rfl ?_); refine box_event ?hg (N := 4) ?hd (cs := #[.int .i64 0, .int .i64 0, .int .u64 0, .int .i64 0, .int .i64 0, .int .i64 0]) (t := 32) ?hr ?_; (case hd => rfl); (case hg => rfl); (case hr => first | (go_simp; done) | (go_simp; rfl)); intro gb123 hg w5 hbox hb; have n0_ := Aside0.mk (blk_below (g := gb122) (o := .cells #[.int .i64 a0_0, .int .i64 a0_1, .int .u64 a0_2, .int .i64 a0_3, .int .i64 a0_4, .int .i64 a0_5] 32 (0, 0)) (by (with_reducible repeat (first | refine blk_drewN ?_ _ | refine blk_drew ?_ | refine blk_alloc ?_ _)); exact BK122.out) hb); have n1_ := Aside0.mk (below_step (by repeat (first | (with_reducible first | exact HB.out | apply below_alloc | apply pw_below_drewN | apply below_drew1 | refine below_set ?_ GE122.out) | exact HB.out)) hb); have n2_ := Aside0.mk (hbox); have n3_ := Aside0.mk ((by rw [hg]; exact (below_size (by repeat (first | (with_reducible first | exact HB.out | apply below_alloc | apply pw_below_drewN | apply below_drew1 | refine below_set ?_ GE122.out) | exact HB.out))) : w.heap.size ≤ gb123)); have n4_ := Aside0.mk ((by rw [hg]; exact (below_size (by repeat (first | (with_reducible first | exact HB.out | apply below_alloc | apply pw_below_drewN | apply below_drew1 | refine below_set ?_ GE122.out) | exact HB.out))) : w.heap.size ≤ gb123)); have n5_ := Aside0.mk ((by rw [hg]; exact Nat.ne_of_lt (blk_lt (g := gb122) (o := .cells #[.int .i64 a0_0, .int .i64 a0_1, .int .u64 a0_2, .int .i64 a0_3, .int .i64 a0_4, .int .i64 a0_5] 32 (0, 0)) (by (with_reducible repeat (first | refine blk_drewN ?_ _ | refine blk_drew ?_ | refine blk_alloc ?_ _)); exact BK122.out)) : gb122 ≠ gb123)); have n6_ := Aside0.mk ((by rw [hg]; exact Nat.ne_of_gt (blk_lt (g := gb122) (o := .cells #[.int .i64 a0_0, .int .i64 a0_1, .int .u64 a0_2, .int .i64 a0_3, .int .i64 a0_4, .int .i64 a0_5] 32 (0, 0)) (by (with_reducible repeat (first | refine blk_drewN ?_ _ | refine blk_drew ?_ | refine blk_alloc ?_ _)); exact BK122.out)) : gb123 ≠ gb122)); clear BK122; clear HB; have BK122 := n0_; have HB := n1_; have BK123 := n2_; have GW123 := n3_; have GE123 := n4_; have NB122_123 := n5_; have NB123_122 := n6_; clear n0_ n1_ n2_ n3_ n4_ n5_ n6_; clear hb hbox hg; have hnb6 := NB122_123.out; have hnc6 := NB123_122.out; have hcz7_0 : w5.cell? ⟨gb122, 0, none⟩ = some (.int .i64 a0_0) := (blk_cell BK122.out 0).trans rfl; have hcz7_1 : w5.cell? ⟨gb122, 1, none⟩ = some (.int .i64 a0_1) := (blk_cell BK122.out 1).trans rfl; have hcz7_2 : w5.cell? ⟨gb122, 2, none⟩ = some (.int .u64 a0_2) := (blk_cell BK122.out 2).trans rfl; have hcz7_3 : w5.cell? ⟨gb122, 3, none⟩ = some (.int .i64 a0_3) := (blk_cell BK122.out 3).trans rfl; have hcz7_4 : w5.cell? ⟨gb122, 4, none⟩ = some (.int .i64 a0_4) := (blk_cell BK122.out 4).trans rfl; have hcz7_5 : w5.cell? ⟨gb122, 5, none⟩ = some (.int .i64 a0_5) := (blk_cell BK122.out 5).trans rfl; have hfz7_0 := blk_frozen BK122.out 0; have hfz7_1 := blk_frozen BK122.out 1; have hfz7_2 := blk_frozen BK122.out 2; have hfz7_3 := blk_frozen BK122.out 3; have hfz7_4 := blk_frozen BK122.out 4; have hfz7_5 := blk_frozen BK122.out 5) | ((with_reducible refine gate_callee (f := 21) rfl ?_); refine goesL_ (some 8) rfl rfl Try.func21 (by kernel_rfl) rfl #[.int .i64 a0_0] rfl (by (try simp only [List.map_toArray, List.map_cons, List.map_nil]); first | done | rfl | (simp only [List.length_drop, List.length_take]; rfl)) ?_; (with_reducible refine (term_Kids.calls k a0_0 t124 _ A3.out).mono ?_); rintro e w' ⟨rfl, ⟨nd, rfl⟩⟩; refine ⟨_, rfl, ?_⟩))
  go_loopg [9] k (fun kq v9 w' => ∃ (x9_1 : Int) (x123003_1 : Int) (x123004_1 : Int) (x123005_1 : Int), v9 = .int .i64 x9_1 ∧ Aside0 (term_moved.l0 kq l1 t124 x9_1 a0_0 a0_1 a0_2 x123003_1 x123004_1 x123005_1 = some (r1, r2, r3, r4, r5, r6)) ∧ Aside0 (kq ≤ k) ∧ Aside0 (w'.heap[gb122]? = some (.cells #[.int .i64 a0_0, .int .i64 a0_1, .int .u64 a0_2, .int .i64 x123003_1, .int .i64 x123004_1, .int .i64 x123005_1] 32 (0, 0))) ∧ Aside0 (w'.heap[gb123]? = some (.cells #[.int .i64 0, .int .i64 0, .int .u64 0, .int .i64 0, .int .i64 0, .int .i64 0] 32 (0, 0))) ∧ Aside0 (Below w.heap.size w w'))
  case atStart => exact ⟨(0), (a0_3), (a0_4), (a0_5), (by first | rfl | (simp; done) | (simp [*]; done)), H', ⟨Nat.le_refl _⟩, ⟨by (with_reducible repeat (first | refine blk_drewN ?_ _ | refine blk_drew ?_ | refine blk_alloc ?_ _)); exact BK122.out⟩, ⟨by (with_reducible repeat (first | refine blk_drewN ?_ _ | refine blk_drew ?_ | refine blk_alloc ?_ _)); exact BK123.out⟩, ⟨by repeat (first | (with_reducible first | exact HB.out | apply below_alloc | apply pw_below_drewN | apply below_drew1 | refine below_set ?_ GE122.out | refine below_set ?_ GE123.out) | exact HB.out)⟩⟩
  case round =>
    clear H'
    try clear c1
    try clear c2
    try clear p2
    try clear c3
    try clear c6
    try clear hcz7_0
    try clear hcz7_1
    try clear hcz7_2
    try clear hcz7_3
    try clear hcz7_4
    try clear hcz7_5
    try clear hfz7_0
    try clear hfz7_1
    try clear hfz7_2
    try clear hfz7_3
    try clear hfz7_4
    try clear hfz7_5
    obtain ⟨x9_1, x123003_1, x123004_1, x123005_1, rfl, HA, HK1, BK122, BK123, HB⟩ := hrel
    cases gk with
    | zero => exact absurd HA.out (by simp [term_moved.l0])
    | succ k1 =>
      have H := HA.out
      clear HA
      simp only [term_moved.l0] at H
      by_cases c8 : x9_1 < t124
      · rw [if_pos c8] at H
        have c8b0 : decide (x9_1 < t124) = true := decide_eq_true c8
        clear c8
        by_cases c9 : x9_1 = 0
        · rw [if_pos c9] at H
          have c9b0 : (x9_1 == 0) = true := beq_iff_eq.mpr c9
          have c9b1 : (x9_1 != 0) = false := bne_eq_false_iff_eq.mpr c9
          clear c9
          have hai10_ : (x9_1 : Int) = 0 := beq_iff_eq.mp (by first | (with_reducible assumption) | assumption)
          have p10 : (0 ≤ (x9_1 : Int)) = True := eq_true (by omega)
          have q10 : ((x9_1 : Int) < 3) = True := eq_true (by omega)
          have qi10 : True → (x9_1 : Int).toNat = 0 := fun _ => by omega
          clear hai10_
          by_cases c11 : 0 ≤ x123003_1
          · rw [if_pos c11] at H
            have c11b0 : decide (0 ≤ x123003_1) = true := decide_eq_true c11
            clear c11
            by_cases c12 : x123003_1 < (l1.length : Int)
            · rw [if_pos c12] at H
              have c12b0 : decide (x123003_1 < (l1.length : Int)) = true := decide_eq_true c12
              clear c12
              have hai13_ : (x9_1 : Int) = 0 := beq_iff_eq.mp (by first | (with_reducible assumption) | assumption)
              have p13 : (0 ≤ (x9_1 : Int)) = True := eq_true (by omega)
              have q13 : ((x9_1 : Int) < 3) = True := eq_true (by omega)
              have qi13 : True → (x9_1 : Int).toNat = 0 := fun _ => by omega
              clear hai13_
              have H' := Aside0.mk H
              clear H
              have hnb14 := NB122_123.out
              have hnc14 := NB123_122.out
              have hcz15_0 : wr.cell? ⟨gb122, 0, none⟩ = some (.int .i64 a0_0) := (blk_cell BK122.out 0).trans rfl
              have hcz15_1 : wr.cell? ⟨gb122, 1, none⟩ = some (.int .i64 a0_1) := (blk_cell BK122.out 1).trans rfl
              have hcz15_2 : wr.cell? ⟨gb122, 2, none⟩ = some (.int .u64 a0_2) := (blk_cell BK122.out 2).trans rfl
              have hcz15_3 : wr.cell? ⟨gb122, 3, none⟩ = some (.int .i64 x123003_1) := (blk_cell BK122.out 3).trans rfl
              have hcz15_4 : wr.cell? ⟨gb122, 4, none⟩ = some (.int .i64 x123004_1) := (blk_cell BK122.out 4).trans rfl
              have hcz15_5 : wr.cell? ⟨gb122, 5, none⟩ = some (.int .i64 x123005_1) := (blk_cell BK122.out 5).trans rfl
              have hfz15_0 := blk_frozen BK122.out 0
              have hfz15_1 := blk_frozen BK122.out 1
              have hfz15_2 := blk_frozen BK122.out 2
              have hfz15_3 := blk_frozen BK122.out 3
              have hfz15_4 := blk_frozen BK122.out 4
              have hfz15_5 := blk_frozen BK122.out 5
              have p125 : 0 ≤ (x123003_1 : Int) := of_decide_eq_true (by first | (with_reducible assumption) | assumption)
              have q125 : x123003_1 < (l1.length : Int) := of_decide_eq_true (by first | (with_reducible assumption) | assumption)
              obtain ⟨ad125, e125, hx125_0⟩ := Kd.at_int HR1.out x123003_1 p125 q125
              cases e125
              replace hx125_0 := (HB.out.cell (World.block_lt_of_cell? w _ hx125_0)).trans hx125_0
              replace p125 := eq_true p125
              replace q125 := eq_true q125
              go_wp2
              go_roundg k1
              case measure => have := HK1.out; omega
              case rel => exact ⟨(wrap64 (x9_1 + 1)), (rd l1 x123003_1), (x123004_1), (x123005_1), (by first | rfl | (simp; done) | (simp [*]; done)), H', ⟨by have := HK1.out; omega⟩, ⟨by (with_reducible repeat (first | refine blk_drewN ?_ _ | refine blk_drew ?_ | refine blk_alloc ?_ _)); refine blk_put (cs := #[.int .i64 a0_0, .int .i64 a0_1, .int .u64 a0_2, .int .i64 x123003_1, .int .i64 x123004_1, .int .i64 x123005_1]) ?_ 3 _ rfl; (with_reducible repeat (first | refine blk_drewN ?_ _ | refine blk_drew ?_ | refine blk_alloc ?_ _)); exact BK122.out⟩, ⟨by (with_reducible repeat (first | refine blk_drewN ?_ _ | refine blk_drew ?_ | refine blk_alloc ?_ _)); refine blk_far ?_ NB123_122.out _; (with_reducible repeat (first | refine blk_drewN ?_ _ | refine blk_drew ?_ | refine blk_alloc ?_ _)); exact BK123.out⟩, ⟨by repeat (first | (with_reducible first | exact HB.out | apply below_alloc | apply pw_below_drewN | apply below_drew1 | refine below_set ?_ GE122.out | refine below_set ?_ GE123.out) | exact HB.out)⟩⟩
            · rw [if_neg c12] at H
              exact absurd H (by simp)
          · rw [if_neg c11] at H
            exact absurd H (by simp)
        · rw [if_neg c9] at H
          have c9b0 : (x9_1 == 0) = false := beq_eq_false_iff_ne.mpr c9
          have c9b1 : (x9_1 != 0) = true := bne_iff_ne.mpr c9
          by_cases c16 : x9_1 = 1
          · rw [if_pos c16] at H
            have c16b0 : (x9_1 == 1) = true := beq_iff_eq.mpr c16
            have c16b1 : (x9_1 != 1) = false := bne_eq_false_iff_eq.mpr c16
            clear c16
            have hai17_ : (x9_1 : Int) = 1 := beq_iff_eq.mp (by first | (with_reducible assumption) | assumption)
            have p17 : (0 ≤ (x9_1 : Int)) = True := eq_true (by omega)
            have q17 : ((x9_1 : Int) < 3) = True := eq_true (by omega)
            have qi17 : True → (x9_1 : Int).toNat = 1 := fun _ => by omega
            clear hai17_
            by_cases c18 : 0 ≤ x123004_1
            · rw [if_pos c18] at H
              have c18b0 : decide (0 ≤ x123004_1) = true := decide_eq_true c18
              clear c18
              by_cases c19 : x123004_1 < (l1.length : Int)
              · rw [if_pos c19] at H
                have c19b0 : decide (x123004_1 < (l1.length : Int)) = true := decide_eq_true c19
                clear c19
                have hai20_ : (x9_1 : Int) = 1 := beq_iff_eq.mp (by first | (with_reducible assumption) | assumption)
                have p20 : (0 ≤ (x9_1 : Int)) = True := eq_true (by omega)
                have q20 : ((x9_1 : Int) < 3) = True := eq_true (by omega)
                have qi20 : True → (x9_1 : Int).toNat = 1 := fun _ => by omega
                clear hai20_
                have H' := Aside0.mk H
                clear H
                have hnb21 := NB122_123.out
                have hnc21 := NB123_122.out
                have hcz22_0 : wr.cell? ⟨gb122, 0, none⟩ = some (.int .i64 a0_0) := (blk_cell BK122.out 0).trans rfl
                have hcz22_1 : wr.cell? ⟨gb122, 1, none⟩ = some (.int .i64 a0_1) := (blk_cell BK122.out 1).trans rfl
                have hcz22_2 : wr.cell? ⟨gb122, 2, none⟩ = some (.int .u64 a0_2) := (blk_cell BK122.out 2).trans rfl
                have hcz22_3 : wr.cell? ⟨gb122, 3, none⟩ = some (.int .i64 x123003_1) := (blk_cell BK122.out 3).trans rfl
                have hcz22_4 : wr.cell? ⟨gb122, 4, none⟩ = some (.int .i64 x123004_1) := (blk_cell BK122.out 4).trans rfl
                have hcz22_5 : wr.cell? ⟨gb122, 5, none⟩ = some (.int .i64 x123005_1) := (blk_cell BK122.out 5).trans rfl
                have hfz22_0 := blk_frozen BK122.out 0
                have hfz22_1 := blk_frozen BK122.out 1
                have hfz22_2 := blk_frozen BK122.out 2
                have hfz22_3 := blk_frozen BK122.out 3
                have hfz22_4 := blk_frozen BK122.out 4
                have hfz22_5 := blk_frozen BK122.out 5
                have p126 : 0 ≤ (x123004_1 : Int) := of_decide_eq_true (by first | (with_reducible assumption) | assumption)
                have q126 : x123004_1 < (l1.length : Int) := of_decide_eq_true (by first | (with_reducible assumption) | assumption)
                obtain ⟨ad126, e126, hx126_0⟩ := Kd.at_int HR1.out x123004_1 p126 q126
                cases e126
                replace hx126_0 := (HB.out.cell (World.block_lt_of_cell? w _ hx126_0)).trans hx126_0
                replace p126 := eq_true p126
                replace q126 := eq_true q126
                go_wp2
                go_roundg k1
                case measure => have := HK1.out; omega
                case rel => exact ⟨(wrap64 (x9_1 + 1)), (x123003_1), (rd l1 x123004_1), (x123005_1), (by first | rfl | (simp; done) | (simp [*]; done)), H', ⟨by have := HK1.out; omega⟩, ⟨by (with_reducible repeat (first | refine blk_drewN ?_ _ | refine blk_drew ?_ | refine blk_alloc ?_ _)); refine blk_put (cs := #[.int .i64 a0_0, .int .i64 a0_1, .int .u64 a0_2, .int .i64 x123003_1, .int .i64 x123004_1, .int .i64 x123005_1]) ?_ 4 _ rfl; (with_reducible repeat (first | refine blk_drewN ?_ _ | refine blk_drew ?_ | refine blk_alloc ?_ _)); exact BK122.out⟩, ⟨by (with_reducible repeat (first | refine blk_drewN ?_ _ | refine blk_drew ?_ | refine blk_alloc ?_ _)); refine blk_far ?_ NB123_122.out _; (with_reducible repeat (first | refine blk_drewN ?_ _ | refine blk_drew ?_ | refine blk_alloc ?_ _)); exact BK123.out⟩, ⟨by repeat (first | (with_reducible first | exact HB.out | apply below_alloc | apply pw_below_drewN | apply below_drew1 | refine below_set ?_ GE122.out | refine below_set ?_ GE123.out) | exact HB.out)⟩⟩
              · rw [if_neg c19] at H
                exact absurd H (by simp)
            · rw [if_neg c18] at H
              exact absurd H (by simp)
          · rw [if_neg c16] at H
            have c16b0 : (x9_1 == 1) = false := beq_eq_false_iff_ne.mpr c16
            have c16b1 : (x9_1 != 1) = true := bne_iff_ne.mpr c16
            by_cases c23 : x9_1 = 2
            · rw [if_pos c23] at H
              have c23b0 : (x9_1 == 2) = true := beq_iff_eq.mpr c23
              have c23b1 : (x9_1 != 2) = false := bne_eq_false_iff_eq.mpr c23
              clear c23
              have hai24_ : (x9_1 : Int) = 2 := beq_iff_eq.mp (by first | (with_reducible assumption) | assumption)
              have p24 : (0 ≤ (x9_1 : Int)) = True := eq_true (by omega)
              have q24 : ((x9_1 : Int) < 3) = True := eq_true (by omega)
              have qi24 : True → (x9_1 : Int).toNat = 2 := fun _ => by omega
              clear hai24_
              by_cases c25 : 0 ≤ x123005_1
              · rw [if_pos c25] at H
                have c25b0 : decide (0 ≤ x123005_1) = true := decide_eq_true c25
                clear c25
                by_cases c26 : x123005_1 < (l1.length : Int)
                · rw [if_pos c26] at H
                  have c26b0 : decide (x123005_1 < (l1.length : Int)) = true := decide_eq_true c26
                  clear c26
                  have hai27_ : (x9_1 : Int) = 2 := beq_iff_eq.mp (by first | (with_reducible assumption) | assumption)
                  have p27 : (0 ≤ (x9_1 : Int)) = True := eq_true (by omega)
                  have q27 : ((x9_1 : Int) < 3) = True := eq_true (by omega)
                  have qi27 : True → (x9_1 : Int).toNat = 2 := fun _ => by omega
                  clear hai27_
                  have H' := Aside0.mk H
                  clear H
                  have hnb28 := NB122_123.out
                  have hnc28 := NB123_122.out
                  have hcz29_0 : wr.cell? ⟨gb122, 0, none⟩ = some (.int .i64 a0_0) := (blk_cell BK122.out 0).trans rfl
                  have hcz29_1 : wr.cell? ⟨gb122, 1, none⟩ = some (.int .i64 a0_1) := (blk_cell BK122.out 1).trans rfl
                  have hcz29_2 : wr.cell? ⟨gb122, 2, none⟩ = some (.int .u64 a0_2) := (blk_cell BK122.out 2).trans rfl
                  have hcz29_3 : wr.cell? ⟨gb122, 3, none⟩ = some (.int .i64 x123003_1) := (blk_cell BK122.out 3).trans rfl
                  have hcz29_4 : wr.cell? ⟨gb122, 4, none⟩ = some (.int .i64 x123004_1) := (blk_cell BK122.out 4).trans rfl
                  have hcz29_5 : wr.cell? ⟨gb122, 5, none⟩ = some (.int .i64 x123005_1) := (blk_cell BK122.out 5).trans rfl
                  have hfz29_0 := blk_frozen BK122.out 0
                  have hfz29_1 := blk_frozen BK122.out 1
                  have hfz29_2 := blk_frozen BK122.out 2
                  have hfz29_3 := blk_frozen BK122.out 3
                  have hfz29_4 := blk_frozen BK122.out 4
                  have hfz29_5 := blk_frozen BK122.out 5
                  have p127 : 0 ≤ (x123005_1 : Int) := of_decide_eq_true (by first | (with_reducible assumption) | assumption)
                  have q127 : x123005_1 < (l1.length : Int) := of_decide_eq_true (by first | (with_reducible assumption) | assumption)
                  obtain ⟨ad127, e127, hx127_0⟩ := Kd.at_int HR1.out x123005_1 p127 q127
                  cases e127
                  replace hx127_0 := (HB.out.cell (World.block_lt_of_cell? w _ hx127_0)).trans hx127_0
                  replace p127 := eq_true p127
                  replace q127 := eq_true q127
                  go_wp2
                  go_roundg k1
                  case measure => have := HK1.out; omega
                  case rel => exact ⟨(wrap64 (x9_1 + 1)), (x123003_1), (x123004_1), (rd l1 x123005_1), (by first | rfl | (simp; done) | (simp [*]; done)), H', ⟨by have := HK1.out; omega⟩, ⟨by (with_reducible repeat (first | refine blk_drewN ?_ _ | refine blk_drew ?_ | refine blk_alloc ?_ _)); refine blk_put (cs := #[.int .i64 a0_0, .int .i64 a0_1, .int .u64 a0_2, .int .i64 x123003_1, .int .i64 x123004_1, .int .i64 x123005_1]) ?_ 5 _ rfl; (with_reducible repeat (first | refine blk_drewN ?_ _ | refine blk_drew ?_ | refine blk_alloc ?_ _)); exact BK122.out⟩, ⟨by (with_reducible repeat (first | refine blk_drewN ?_ _ | refine blk_drew ?_ | refine blk_alloc ?_ _)); refine blk_far ?_ NB123_122.out _; (with_reducible repeat (first | refine blk_drewN ?_ _ | refine blk_drew ?_ | refine blk_alloc ?_ _)); exact BK123.out⟩, ⟨by repeat (first | (with_reducible first | exact HB.out | apply below_alloc | apply pw_below_drewN | apply below_drew1 | refine below_set ?_ GE122.out | refine below_set ?_ GE123.out) | exact HB.out)⟩⟩
                · rw [if_neg c26] at H
                  exact absurd H (by simp)
              · rw [if_neg c25] at H
                exact absurd H (by simp)
            · rw [if_neg c23] at H
              exact absurd H (by simp)
      · rw [if_neg c8] at H
        have c8b0 : decide (x9_1 < t124) = false := decide_eq_false c8
        clear c8
        simp only [Option.some.injEq, Prod.mk.injEq] at H
        obtain ⟨rfl, rfl, rfl, rfl, rfl, rfl⟩ := H
        have hnb30 := NB122_123.out
        have hnc30 := NB123_122.out
        have hcz31_0 : wr.cell? ⟨gb122, 0, none⟩ = some (.int .i64 a0_0) := (blk_cell BK122.out 0).trans rfl
        have hcz31_1 : wr.cell? ⟨gb122, 1, none⟩ = some (.int .i64 a0_1) := (blk_cell BK122.out 1).trans rfl
        have hcz31_2 : wr.cell? ⟨gb122, 2, none⟩ = some (.int .u64 a0_2) := (blk_cell BK122.out 2).trans rfl
        have hcz31_3 : wr.cell? ⟨gb122, 3, none⟩ = some (.int .i64 x123003_1) := (blk_cell BK122.out 3).trans rfl
        have hcz31_4 : wr.cell? ⟨gb122, 4, none⟩ = some (.int .i64 x123004_1) := (blk_cell BK122.out 4).trans rfl
        have hcz31_5 : wr.cell? ⟨gb122, 5, none⟩ = some (.int .i64 x123005_1) := (blk_cell BK122.out 5).trans rfl
        have hfz31_0 := blk_frozen BK122.out 0
        have hfz31_1 := blk_frozen BK122.out 1
        have hfz31_2 := blk_frozen BK122.out 2
        have hfz31_3 := blk_frozen BK122.out 3
        have hfz31_4 := blk_frozen BK122.out 4
        have hfz31_5 := blk_frozen BK122.out 5
        have hcz32_0 : wr.cell? ⟨gb123, 0, none⟩ = some (.int .i64 0) := (blk_cell BK123.out 0).trans rfl
        have hcz32_1 : wr.cell? ⟨gb123, 1, none⟩ = some (.int .i64 0) := (blk_cell BK123.out 1).trans rfl
        have hcz32_2 : wr.cell? ⟨gb123, 2, none⟩ = some (.int .u64 0) := (blk_cell BK123.out 2).trans rfl
        have hcz32_3 : wr.cell? ⟨gb123, 3, none⟩ = some (.int .i64 0) := (blk_cell BK123.out 3).trans rfl
        have hcz32_4 : wr.cell? ⟨gb123, 4, none⟩ = some (.int .i64 0) := (blk_cell BK123.out 4).trans rfl
        have hcz32_5 : wr.cell? ⟨gb123, 5, none⟩ = some (.int .i64 0) := (blk_cell BK123.out 5).trans rfl
        have hfz32_0 := blk_frozen BK123.out 0
        have hfz32_1 := blk_frozen BK123.out 1
        have hfz32_2 := blk_frozen BK123.out 2
        have hfz32_3 := blk_frozen BK123.out 3
        have hfz32_4 := blk_frozen BK123.out 4
        have hfz32_5 := blk_frozen BK123.out 5
        go_wp2
        refine bodyPost_ret (results_cell_row rfl _ _ gb123 32 #[.int .i64 a0_0, .int .i64 a0_1, .int .u64 a0_2, .int .i64 x123003_1, .int .i64 x123004_1, .int .i64 x123005_1] (0, 0) _ rfl (by (with_reducible repeat (first | refine blk_drewN ?_ _ | refine blk_drew ?_ | refine blk_alloc ?_ _)); refine blk_put (cs := #[.int .i64 a0_0, .int .i64 a0_1, .int .u64 a0_2, .int .i64 x123003_1, .int .i64 x123004_1, .int .i64 0]) ?_ 5 _ rfl; (with_reducible repeat (first | refine blk_drewN ?_ _ | refine blk_drew ?_ | refine blk_alloc ?_ _)); refine blk_put (cs := #[.int .i64 a0_0, .int .i64 a0_1, .int .u64 a0_2, .int .i64 x123003_1, .int .i64 0, .int .i64 0]) ?_ 4 _ rfl; (with_reducible repeat (first | refine blk_drewN ?_ _ | refine blk_drew ?_ | refine blk_alloc ?_ _)); refine blk_put (cs := #[.int .i64 a0_0, .int .i64 a0_1, .int .u64 a0_2, .int .i64 0, .int .i64 0, .int .i64 0]) ?_ 3 _ rfl; (with_reducible repeat (first | refine blk_drewN ?_ _ | refine blk_drew ?_ | refine blk_alloc ?_ _)); refine blk_put (cs := #[.int .i64 a0_0, .int .i64 a0_1, .int .u64 0, .int .i64 0, .int .i64 0, .int .i64 0]) ?_ 2 _ rfl; (with_reducible repeat (first | refine blk_drewN ?_ _ | refine blk_drew ?_ | refine blk_alloc ?_ _)); refine blk_put (cs := #[.int .i64 a0_0, .int .i64 0, .int .u64 0, .int .i64 0, .int .i64 0, .int .i64 0]) ?_ 1 _ rfl; (with_reducible repeat (first | refine blk_drewN ?_ _ | refine blk_drew ?_ | refine blk_alloc ?_ _)); refine blk_put (cs := #[.int .i64 0, .int .i64 0, .int .u64 0, .int .i64 0, .int .i64 0, .int .i64 0]) ?_ 0 _ rfl; (with_reducible repeat (first | refine blk_drewN ?_ _ | refine blk_drew ?_ | refine blk_alloc ?_ _)); exact BK123.out) Try.underlying32 rfl (by kernel_rfl)) rfl ?_
        exact ⟨by first | rfl | (simp [errW_none, errW_some] <;> rfl) | (simp [*, errW_none, errW_some] <;> rfl), by repeat (first | (with_reducible first | exact HB.out | apply below_alloc | apply pw_below_drewN | apply below_drew1 | refine below_set ?_ GE122.out | refine below_set ?_ GE123.out) | exact HB.out)⟩

end Go.Proofs.Ytkindfbbklkjdaa.P
