/- What Go functions compute, and their walks: written by a program of this session (a turned copy of the kit's print) out of the translation. -/
import Derived.Test.YtkindfbbklkjdaaPx0
import Derived.Test.YtkindfbbklkjdaaPx8
namespace Go.Proofs.Ytkindfbbklkjdaa.P
open Go.RowKit Go.Proofs.YtkindfbbklkjdaaW.PrintWords Go.Proofs.YtkindfbbklkjdaaW.PrintLast Go.Proofs.YtkindfbbklkjdaaW.PrintMore
attribute [local go_sem] max2_int min2_int max_two min_two max_three min_three max_four min_four   -- for this text's walks alone
set_option linter.unusedVariables false
set_option linter.unusedSimpArgs false

/-! ### term_Check: function 19 -/
def term_Check.l0 : Nat → List (S32) → List (S32) → Int → Int → Option (Int × Int)
  | 0, _, _, _, _ => none
  | k + 1, x0, x10, x11, x12 => if x12 < x11 then (if 0 ≤ x12 then (if x12 < (x10.length : Int) then (if x12 = 65536 then (some (10, x12)) else (if x12 ≤ (x0.length : Int) then ((term_right.f k ((rd_T32 x10 x12).f0) ((rd_T32 x10 x12).f1) ((rd_T32 x10 x12).f2) ((rd_T32 x10 x12).f3.f0) ((rd_T32 x10 x12).f3.f1) ((rd_T32 x10 x12).f3.f2) (x0.take (x12 : Int).toNat)).bind fun t196 => (if t196 = 0 then (term_Check.l0 k x0 x10 x11 (wrap64 (x12 + 1))) else (some (t196, x12)))) else (none))) else (none)) else (none)) else (some (0, 0))
def term_Check.f (k : Nat) (l0 : List (S32)) : Option (Int × Int) := if (l0.length : Int) = 0 then (some (11, 0)) else (term_Check.l0 k l0 l0 (l0.length : Int) 0)
theorem term_Check.mono_l : ∀ k, (∀ y0 y1 y2 y3, LeO (term_Check.l0 k y0 y1 y2 y3) (term_Check.l0 (k + 1) y0 y1 y2 y3))
  | 0 => fun _ _ _ _ r h => by simp [term_Check.l0] at h
  | k + 1 => by
    have ih0 := term_Check.mono_l k
    · intro y0 y1 y2 y3
      unfold term_Check.l0
      repeat' first
      | (with_reducible exact ih0 _ _ _ _)
      | (with_reducible exact term_right.mono _ _ _ _ _ _ _ _)
      | (with_reducible exact LeO.refl _)
      | (with_reducible exact LeO.none _)
      | (with_reducible refine LeO.ite ?_ ?_)
      | (with_reducible refine LeO.bind ?_ (fun _ => ?_))
      | exact ih0 _ _ _ _
      | exact term_right.mono _ _ _ _ _ _ _ _
      | exact LeO.none _
      | refine LeO.ite ?_ ?_
      | refine LeO.bind ?_ (fun _ => ?_)
theorem term_Check.mono : ∀ a0 k, LeO (term_Check.f k a0) (term_Check.f (k + 1) a0) := by
  intro a0 k
  have ih0 := term_Check.mono_l k
  unfold term_Check.f
  repeat' first
      | (with_reducible exact ih0 _ _ _ _)
      | (with_reducible exact term_right.mono _ _ _ _ _ _ _ _)
      | (with_reducible exact LeO.refl _)
      | (with_reducible exact LeO.none _)
      | (with_reducible refine LeO.ite ?_ ?_)
      | (with_reducible refine LeO.bind ?_ (fun _ => ?_))
      | exact ih0 _ _ _ _
      | exact term_right.mono _ _ _ _ _ _ _ _
      | exact LeO.none _
      | refine LeO.ite ?_ ?_
      | refine LeO.bind ?_ (fun _ => ?_)
set_option maxHeartbeats 8000000 in
set_option maxRecDepth 100000 in
theorem term_Check.calls (k : Nat) (A0 : Option Addr) (c0 : Nat) (l0 : List (S32)) (r1 : Int) (r2 : Int) (w : World) (hr0 : Kd.C k32 w A0 l0.length l0) (hc0 : l0.length ≤ c0) (h : term_Check.f k l0 = some (r1, r2)) :
    Calls Try.prog 19 #[.slice A0 l0.length c0] w fun e w' => e = .returned (.tuple #[.int .i64 r1, .int .i64 r2]) ∧ Below w.heap.size w w' := by
  have hu32 := Try.underlying32
  have HR0 := Aside0.mk hr0
  have HC0 := Aside0.mk hc0
  clear hr0 hc0
  have HB := Aside0.mk (Below.refl w.heap.size w)
  have H : (if (l0.length : Int) = 0 then (some (11, 0)) else (term_Check.l0 k l0 l0 (l0.length : Int) 0)) = some (r1, r2) := h
  clear h
  by_cases c2 : (l0.length : Int) = 0
  · rw [if_pos c2] at H
    have c2b0 : ((l0.length : Int) == 0) = true := beq_iff_eq.mpr c2
    have c2b1 : ((l0.length : Int) != 0) = false := bne_eq_false_iff_eq.mpr c2
    clear c2
    simp only [Option.some.injEq, Prod.mk.injEq] at H
    obtain ⟨rfl, rfl⟩ := H
    go_enter Try.func19, Try.ntmps19
    go_wp2
    go_ret2
    exact ⟨by first | rfl | (simp [errW_none, errW_some] <;> rfl) | (simp [*, errW_none, errW_some] <;> rfl), by repeat (first | (with_reducible first | exact HB.out | apply below_alloc | apply pw_below_drewN | apply below_drew1) | exact HB.out)⟩
  · rw [if_neg c2] at H
    have c2b0 : ((l0.length : Int) == 0) = false := beq_eq_false_iff_ne.mpr c2
    have c2b1 : ((l0.length : Int) != 0) = true := bne_iff_ne.mpr c2
    have c2b2 : ¬ (l0 = []) := fun h_ => c2 (by rw [h_]; rfl)
    have H' := Aside0.mk H
    clear H
    go_enter Try.func19, Try.ntmps19
    go_wp2
    go_loopg [12] k (fun kq v12 w' => ∃ (x12_1 : Int), v12 = .int .i64 x12_1 ∧ Aside0 (term_Check.l0 kq l0 l0 (l0.length : Int) x12_1 = some (r1, r2)) ∧ Aside0 (kq ≤ k) ∧ Aside0 (Below w.heap.size w w'))
    case atStart => exact ⟨(0), (by first | rfl | (simp; done) | (simp [*]; done)), H', ⟨Nat.le_refl _⟩, ⟨by repeat (first | (with_reducible first | exact HB.out | apply below_alloc | apply pw_below_drewN | apply below_drew1) | exact HB.out)⟩⟩
    case round =>
      clear H'
      try clear c1
      try clear c2
      try clear c2b0
      try clear c2b1
      try clear c2b2
      try clear p2
      obtain ⟨x12_1, rfl, HA, HK1, HB⟩ := hrel
      cases gk with
      | zero => exact absurd HA.out (by simp [term_Check.l0])
      | succ k1 =>
        have H := HA.out
        clear HA
        simp only [term_Check.l0] at H
        by_cases c3 : x12_1 < (l0.length : Int)
        · rw [if_pos c3] at H
          have c3b0 : decide (x12_1 < (l0.length : Int)) = true := decide_eq_true c3
          clear c3
          by_cases c4 : 0 ≤ x12_1
          · rw [if_pos c4] at H
            have c4b0 : decide (0 ≤ x12_1) = true := decide_eq_true c4
            clear c4
            by_cases c5 : x12_1 < (l0.length : Int)
            · rw [if_pos c5] at H
              have c5b0 : decide (x12_1 < (l0.length : Int)) = true := decide_eq_true c5
              clear c5
              by_cases c6 : x12_1 = 65536
              · rw [if_pos c6] at H
                have c6b0 : (x12_1 == 65536) = true := beq_iff_eq.mpr c6
                have c6b1 : (x12_1 != 65536) = false := bne_eq_false_iff_eq.mpr c6
                clear c6
                simp only [Option.some.injEq, Prod.mk.injEq] at H
                obtain ⟨rfl, rfl⟩ := H
                have p190 : 0 ≤ (x12_1 : Int) := of_decide_eq_true (by first | (with_reducible assumption) | assumption)
                have q190 : x12_1 < (l0.length : Int) := of_decide_eq_true (by first | (with_reducible assumption) | assumption)
                obtain ⟨ad190, e190, hx190_0, hx190_1, hx190_2, hx190_3, hx190_4, hx190_5⟩ := at_T32 HR0.out x12_1 p190 q190
                cases e190
                replace hx190_0 := (HB.out.cell (World.block_lt_of_cell? w _ hx190_0)).trans hx190_0
                replace hx190_1 := (HB.out.cell (World.block_lt_of_cell? w _ hx190_1)).trans hx190_1
                replace hx190_2 := (HB.out.cell (World.block_lt_of_cell? w _ hx190_2)).trans hx190_2
                replace hx190_3 := (HB.out.cell (World.block_lt_of_cell? w _ hx190_3)).trans hx190_3
                replace hx190_4 := (HB.out.cell (World.block_lt_of_cell? w _ hx190_4)).trans hx190_4
                replace hx190_5 := (HB.out.cell (World.block_lt_of_cell? w _ hx190_5)).trans hx190_5
                replace p190 := eq_true p190
                replace q190 := eq_true q190
                go_wp2_with (first | ((with_reducible refine gate_dst (N := 5) rfl ?_); refine box_event ?hg (N := 5) ?hd (cs := #[.int .i64 0, .int .i64 0, .int .u64 0, .int .i64 0, .int .i64 0, .int .i64 0]) (t := 32) ?hr ?_; (case hd => rfl); (case hg => rfl); (case hr => first | (go_simp; done) | (go_simp; rfl)); intro gb191 hg w7 hbox hb; have n0_ := Aside0.mk (below_step (by repeat (first | (with_reducible first | exact HB.out | apply below_alloc | apply pw_below_drewN | apply below_drew1) | exact HB.out)) hb); have n1_ := Aside0.mk (hbox); have n2_ := Aside0.mk ((by rw [hg]; exact (below_size (by repeat (first | (with_reducible first | exact HB.out | apply below_alloc | apply pw_below_drewN | apply below_drew1) | exact HB.out))) : w.heap.size ≤ gb191)); have n3_ := Aside0.mk ((by rw [hg]; exact (below_size (by repeat (first | (with_reducible first | exact HB.out | apply below_alloc | apply pw_below_drewN | apply below_drew1) | exact HB.out))) : w.heap.size ≤ gb191)); clear HB; have HB := n0_; have BK191 := n1_; have GW191 := n2_; have GE191 := n3_; clear n0_ n1_ n2_ n3_; clear hb hbox hg; have hcz8_0 : w7.cell? ⟨gb191, 0, none⟩ = some (.int .i64 0) := (blk_cell BK191.out 0).trans rfl; have hcz8_1 : w7.cell? ⟨gb191, 1, none⟩ = some (.int .i64 0) := (blk_cell BK191.out 1).trans rfl; have hcz8_2 : w7.cell? ⟨gb191, 2, none⟩ = some (.int .u64 0) := (blk_cell BK191.out 2).trans rfl; have hcz8_3 : w7.cell? ⟨gb191, 3, none⟩ = some (.int .i64 0) := (blk_cell BK191.out 3).trans rfl; have hcz8_4 : w7.cell? ⟨gb191, 4, none⟩ = some (.int .i64 0) := (blk_cell BK191.out 4).trans rfl; have hcz8_5 : w7.cell? ⟨gb191, 5, none⟩ = some (.int .i64 0) := (blk_cell BK191.out 5).trans rfl; have hfz8_0 := blk_frozen BK191.out 0; have hfz8_1 := blk_frozen BK191.out 1; have hfz8_2 := blk_frozen BK191.out 2; have hfz8_3 := blk_frozen BK191.out 3; have hfz8_4 := blk_frozen BK191.out 4; have hfz8_5 := blk_frozen BK191.out 5))
                go_ret2
                exact ⟨by first | rfl | (simp [errW_none, errW_some] <;> rfl) | (simp [*, errW_none, errW_some] <;> rfl), by repeat (first | (with_reducible first | exact HB.out | apply below_alloc | apply pw_below_drewN | apply below_drew1 | refine below_set ?_ GE191.out) | exact HB.out)⟩
              · rw [if_neg c6] at H
                have c6b0 : (x12_1 == 65536) = false := beq_eq_false_iff_ne.mpr c6
                have c6b1 : (x12_1 != 65536) = true := bne_iff_ne.mpr c6
                have c9b0 := eq_true (of_decide_eq_true (by first | (with_reducible assumption) | assumption) : 0 ≤ x12_1)
                by_cases c10 : x12_1 ≤ (l0.length : Int)
                · rw [if_pos c10] at H
                  have c10b0 := eq_true c10
                  have c10b1 : decide (x12_1 ≤ (l0.length : Int)) = true := decide_eq_true c10
                  clear c10
                  obtain ⟨y192, hy192⟩ : ∃ y_ : List (S32), y_ = (l0.take (x12_1 : Int).toNat) := ⟨_, rfl⟩
                  replace H : ((term_right.f k1 ((rd_T32 l0 x12_1).f0) ((rd_T32 l0 x12_1).f1) ((rd_T32 l0 x12_1).f2) ((rd_T32 l0 x12_1).f3.f0) ((rd_T32 l0 x12_1).f3.f1) ((rd_T32 l0 x12_1).f3.f2) y192).bind fun t196 => (if t196 = 0 then (term_Check.l0 k1 l0 l0 (l0.length : Int) (wrap64 (x12_1 + 1))) else (some (t196, x12_1)))) = some (r1, r2) := by first | (rw [hy192]; with_reducible exact H) | (have H2_ := (Option.bind_some _ _).symm.trans H; rw [hy192]; with_reducible exact H2_) | (have H2_ := (Option.bind_some _ _).symm.trans H; with_reducible exact H2_) | with_reducible exact H | (rw [hy192]; exact H) | exact H
                  have Ny192 := Aside0.mk hy192
                  clear hy192
                  replace H := Option.bind_eq_some_iff.mp H
                  obtain ⟨t196, A110, H⟩ := H
                  replace H : (if t196 = 0 then (term_Check.l0 k1 l0 l0 (l0.length : Int) (wrap64 (x12_1 + 1))) else (some (t196, x12_1))) = some (r1, r2) := H
                  have A11 := Aside0.mk A110
                  clear A110
                  by_cases c12 : t196 = 0
                  · rw [if_pos c12] at H
                    have c12b0 : (t196 == 0) = true := beq_iff_eq.mpr c12
                    have c12b1 : (t196 != 0) = false := bne_eq_false_iff_eq.mpr c12
                    clear c12
                    have H' := Aside0.mk H
                    clear H
                    have p190 : 0 ≤ (x12_1 : Int) := of_decide_eq_true (by first | (with_reducible assumption) | assumption)
                    have q190 : x12_1 < (l0.length : Int) := of_decide_eq_true (by first | (with_reducible assumption) | assumption)
                    obtain ⟨ad190, e190, hx190_0, hx190_1, hx190_2, hx190_3, hx190_4, hx190_5⟩ := at_T32 HR0.out x12_1 p190 q190
                    cases e190
                    replace hx190_0 := (HB.out.cell (World.block_lt_of_cell? w _ hx190_0)).trans hx190_0
                    replace hx190_1 := (HB.out.cell (World.block_lt_of_cell? w _ hx190_1)).trans hx190_1
                    replace hx190_2 := (HB.out.cell (World.block_lt_of_cell? w _ hx190_2)).trans hx190_2
                    replace hx190_3 := (HB.out.cell (World.block_lt_of_cell? w _ hx190_3)).trans hx190_3
                    replace hx190_4 := (HB.out.cell (World.block_lt_of_cell? w _ hx190_4)).trans hx190_4
                    replace hx190_5 := (HB.out.cell (World.block_lt_of_cell? w _ hx190_5)).trans hx190_5
                    replace p190 := eq_true p190
                    replace q190 := eq_true q190
                    try go_wp2_with (first | ((with_reducible refine gate_dst (N := 5) rfl ?_); refine box_event ?hg (N := 5) ?hd (cs := #[.int .i64 0, .int .i64 0, .int .u64 0, .int .i64 0, .int .i64 0, .int .i64 0]) (t := 32) ?hr ?_; (case hd => rfl); (case hg => rfl); (case hr => first | (go_simp; done) | (go_simp; rfl)); intro gb191 hg w13 hbox hb; have n0_ := Aside0.mk (below_step (by repeat (first | (with_reducible first | exact HB.out | apply below_alloc | apply pw_below_drewN | apply below_drew1) | exact HB.out)) hb); have n1_ := Aside0.mk (hbox); have n2_ := Aside0.mk ((by rw [hg]; exact (below_size (by repeat (first | (with_reducible first | exact HB.out | apply below_alloc | apply pw_below_drewN | apply below_drew1) | exact HB.out))) : w.heap.size ≤ gb191)); have n3_ := Aside0.mk ((by rw [hg]; exact (below_size (by repeat (first | (with_reducible first | exact HB.out | apply below_alloc | apply pw_below_drewN | apply below_drew1) | exact HB.out))) : w.heap.size ≤ gb191)); clear HB; have HB := n0_; have BK191 := n1_; have GW191 := n2_; have GE191 := n3_; clear n0_ n1_ n2_ n3_; clear hb hbox hg; have hcz14_0 : w13.cell? ⟨gb191, 0, none⟩ = some (.int .i64 0) := (blk_cell BK191.out 0).trans rfl; have hcz14_1 : w13.cell? ⟨gb191, 1, none⟩ = some (.int .i64 0) := (blk_cell BK191.out 1).trans rfl; have hcz14_2 : w13.cell? ⟨gb191, 2, none⟩ = some (.int .u64 0) := (blk_cell BK191.out 2).trans rfl; have hcz14_3 : w13.cell? ⟨gb191, 3, none⟩ = some (.int .i64 0) := (blk_cell BK191.out 3).trans rfl; have hcz14_4 : w13.cell? ⟨gb191, 4, none⟩ = some (.int .i64 0) := (blk_cell BK191.out 4).trans rfl; have hcz14_5 : w13.cell? ⟨gb191, 5, none⟩ = some (.int .i64 0) := (blk_cell BK191.out 5).trans rfl; have hfz14_0 := blk_frozen BK191.out 0; have hfz14_1 := blk_frozen BK191.out 1; have hfz14_2 := blk_frozen BK191.out 2; have hfz14_3 := blk_frozen BK191.out 3; have hfz14_4 := blk_frozen BK191.out 4; have hfz14_5 := blk_frozen BK191.out 5))
                    have n0_ : Aside0 (((((((w13.setCell ⟨gb191, 0, none⟩ (.int .i64 ((rd_T32 l0 x12_1).f0))).setCell ⟨gb191, 1, none⟩ (.int .i64 ((rd_T32 l0 x12_1).f1))).setCell ⟨gb191, 2, none⟩ (.int .u64 ((rd_T32 l0 x12_1).f2))).setCell ⟨gb191, 3, none⟩ (.int .i64 ((rd_T32 l0 x12_1).f3.f0))).setCell ⟨gb191, 4, none⟩ (.int .i64 ((rd_T32 l0 x12_1).f3.f1))).setCell ⟨gb191, 5, none⟩ (.int .i64 ((rd_T32 l0 x12_1).f3.f2))).heap[gb191]? = some (.cells #[.int .i64 ((rd_T32 l0 x12_1).f0), .int .i64 ((rd_T32 l0 x12_1).f1), .int .u64 ((rd_T32 l0 x12_1).f2), .int .i64 ((rd_T32 l0 x12_1).f3.f0), .int .i64 ((rd_T32 l0 x12_1).f3.f1), .int .i64 ((rd_T32 l0 x12_1).f3.f2)] 32 (0, 0))) := ⟨by (with_reducible repeat (first | refine blk_drewN ?_ _ | refine blk_drew ?_ | refine blk_alloc ?_ _)); refine blk_put (cs := #[.int .i64 ((rd_T32 l0 x12_1).f0), .int .i64 ((rd_T32 l0 x12_1).f1), .int .u64 ((rd_T32 l0 x12_1).f2), .int .i64 ((rd_T32 l0 x12_1).f3.f0), .int .i64 ((rd_T32 l0 x12_1).f3.f1), .int .i64 0]) ?_ 5 _ rfl; (with_reducible repeat (first | refine blk_drewN ?_ _ | refine blk_drew ?_ | refine blk_alloc ?_ _)); refine blk_put (cs := #[.int .i64 ((rd_T32 l0 x12_1).f0), .int .i64 ((rd_T32 l0 x12_1).f1), .int .u64 ((rd_T32 l0 x12_1).f2), .int .i64 ((rd_T32 l0 x12_1).f3.f0), .int .i64 0, .int .i64 0]) ?_ 4 _ rfl; (with_reducible repeat (first | refine blk_drewN ?_ _ | refine blk_drew ?_ | refine blk_alloc ?_ _)); refine blk_put (cs := #[.int .i64 ((rd_T32 l0 x12_1).f0), .int .i64 ((rd_T32 l0 x12_1).f1), .int .u64 ((rd_T32 l0 x12_1).f2), .int .i64 0, .int .i64 0, .int .i64 0]) ?_ 3 _ rfl; (with_reducible repeat (first | refine blk_drewN ?_ _ | refine blk_drew ?_ | refine blk_alloc ?_ _)); refine blk_put (cs := #[.int .i64 ((rd_T32 l0 x12_1).f0), .int .i64 ((rd_T32 l0 x12_1).f1), .int .u64 0, .int .i64 0, .int .i64 0, .int .i64 0]) ?_ 2 _ rfl; (with_reducible repeat (first | refine blk_drewN ?_ _ | refine blk_drew ?_ | refine blk_alloc ?_ _)); refine blk_put (cs := #[.int .i64 ((rd_T32 l0 x12_1).f0), .int .i64 0, .int .u64 0, .int .i64 0, .int .i64 0, .int .i64 0]) ?_ 1 _ rfl; (with_reducible repeat (first | refine blk_drewN ?_ _ | refine blk_drew ?_ | refine blk_alloc ?_ _)); refine blk_put (cs := #[.int .i64 0, .int .i64 0, .int .u64 0, .int .i64 0, .int .i64 0, .int .i64 0]) ?_ 0 _ rfl; (with_reducible repeat (first | refine blk_drewN ?_ _ | refine blk_drew ?_ | refine blk_alloc ?_ _)); exact BK191.out⟩
                    have n1_ : Aside0 (Below w.heap.size w ((((((w13.setCell ⟨gb191, 0, none⟩ (.int .i64 ((rd_T32 l0 x12_1).f0))).setCell ⟨gb191, 1, none⟩ (.int .i64 ((rd_T32 l0 x12_1).f1))).setCell ⟨gb191, 2, none⟩ (.int .u64 ((rd_T32 l0 x12_1).f2))).setCell ⟨gb191, 3, none⟩ (.int .i64 ((rd_T32 l0 x12_1).f3.f0))).setCell ⟨gb191, 4, none⟩ (.int .i64 ((rd_T32 l0 x12_1).f3.f1))).setCell ⟨gb191, 5, none⟩ (.int .i64 ((rd_T32 l0 x12_1).f3.f2)))) := ⟨by repeat (first | (with_reducible first | exact HB.out | apply below_alloc | apply pw_below_drewN | apply below_drew1 | refine below_set ?_ GE191.out) | exact HB.out)⟩
                    (try clear BK191)
                    (try clear HB)
                    generalize ((((((w13.setCell ⟨gb191, 0, none⟩ (.int .i64 ((rd_T32 l0 x12_1).f0))).setCell ⟨gb191, 1, none⟩ (.int .i64 ((rd_T32 l0 x12_1).f1))).setCell ⟨gb191, 2, none⟩ (.int .u64 ((rd_T32 l0 x12_1).f2))).setCell ⟨gb191, 3, none⟩ (.int .i64 ((rd_T32 l0 x12_1).f3.f0))).setCell ⟨gb191, 4, none⟩ (.int .i64 ((rd_T32 l0 x12_1).f3.f1))).setCell ⟨gb191, 5, none⟩ (.int .i64 ((rd_T32 l0 x12_1).f3.f2))) = w15 at n0_ n1_ ⊢
                    have BK191 := n0_
                    have HB := n1_
                    clear n0_ n1_
                    have n0_ := Aside0.mk (blk_drew BK191.out)
                    have n1_ := Aside0.mk (below_drew1 HB.out)
                    clear BK191
                    clear HB
                    have BK191 := n0_
                    have HB := n1_
                    clear n0_ n1_
                    have q17 : (x12_1 : Int) ≤ ((l0.length : Int) : Int) := of_decide_eq_true (by first | (with_reducible assumption) | assumption)
                    obtain ⟨i017, hi017, _, hsz17, _⟩ := info_parts info32
                    have hroom17 : l0.length ≤ c0 := HC0.out
                    have hC17 : Kd.C k32 _ (some ad190) l0.length l0 := HR0.out
                    have hcut17 := cut_to (P := Try.prog) 22 32 .i64 Try.underlying22 hi017 (some ad190) l0.length c0 x12_1 (of_decide_eq_true (by first | (with_reducible assumption) | assumption)) q17 hroom17
                    have hr17 := Kd.C_take (m := (x12_1 : Int).toNat) hC17 (by omega)
                    have hy17 : y192.length = (x12_1 : Int).toNat := (by rw [Ny192.out, List.length_take]; omega)
                    rw [← Ny192.out] at hr17
                    rw [← hy17] at hcut17
                    have HR195 := Aside0.mk hr17
                    have HC195 := Aside0.mk (show y192.length ≤ c0 from by omega)
                    clear hr17 hC17 hroom17 hi017 hsz17
                    have KY17 := Aside0.mk hy17
                    clear hy17
                    replace q17 := eq_true q17
                    refine start_ (n := 6) (S := fun w' => w'.cell? ⟨gb191, 0, none⟩ = some (.int .i64 ((rd_T32 l0 x12_1).f0)) ∧ w'.cell? ⟨gb191, 1, none⟩ = some (.int .i64 ((rd_T32 l0 x12_1).f1)) ∧ w'.cell? ⟨gb191, 2, none⟩ = some (.int .u64 ((rd_T32 l0 x12_1).f2)) ∧ w'.cell? ⟨gb191, 3, none⟩ = some (.int .i64 ((rd_T32 l0 x12_1).f3.f0)) ∧ w'.cell? ⟨gb191, 4, none⟩ = some (.int .i64 ((rd_T32 l0 x12_1).f3.f1)) ∧ w'.cell? ⟨gb191, 5, none⟩ = some (.int .i64 ((rd_T32 l0 x12_1).f3.f2))) (ds := []) #[false, false, false, false, false, false] (by kernel_rfl) rfl rfl ⟨(blk_cell BK191.out 0).trans rfl, (blk_cell BK191.out 1).trans rfl, (blk_cell BK191.out 2).trans rfl, (blk_cell BK191.out 3).trans rfl, (blk_cell BK191.out 4).trans rfl, (blk_cell BK191.out 5).trans rfl⟩ (fun hHeld => ?_)
                    generalize w15.drew = w16 at BK191 HB HR195 hHeld ⊢
                    refine pure_ (i := 1) (N := some 21) (v := ?_) (a' := ?_) #[false, true, false, false, false, false] rfl rfl (by kernel_rfl) (fun _ _ _ h => h) (Or.inl ⟨by rfl, ?_⟩) ?_ ?_
                    rotate_left
                    · intro w'
                      go_simp
                      with_reducible rfl
                    rotate_left
                    · simp only [Act.put, List.setIfInBounds_toArray, List.set_cons_zero, List.set_cons_succ, i64_w, i32_w]
                      rfl
                    refine pure_ (i := 2) (N := some 22) (v := ?_) (a' := ?_) #[false, true, true, false, false, false] rfl rfl (by kernel_rfl) (fun _ _ _ h => h) (Or.inl ⟨by rfl, ?_⟩) ?_ ?_
                    rotate_left
                    · intro w'
                      go_simp
                      with_reducible rfl
                    rotate_left
                    · simp only [Act.put, List.setIfInBounds_toArray, List.set_cons_zero, List.set_cons_succ, i64_w, i32_w]
                      rfl
                    refine pure_ (i := 3) (N := some 23) (v := ?_) (a' := ?_) #[false, true, true, true, false, false] rfl rfl (by kernel_rfl) (fun _ _ _ h => h) (Or.inl ⟨by rfl, ?_⟩) ?_ ?_
                    rotate_left
                    · intro w'
                      go_simp
                      with_reducible rfl
                    rotate_left
                    · simp only [Act.put, List.setIfInBounds_toArray, List.set_cons_zero, List.set_cons_succ, i64_w, i32_w]
                      rfl
                    refine take_ (i := 0) (N := some 20) (v := ?_) (a' := ?_) #[true, true, true, true, false, false] rfl rfl (by kernel_rfl) (fun _ _ _ h => h) (Or.inl ⟨by rfl, ?_⟩) hHeld ?_ ?_
                    rotate_left
                    · rintro w' ⟨s0, s1, s2, s3, s4, s5⟩
                      go_simp
                      with_reducible rfl
                    rotate_left
                    · simp only [Act.put, List.setIfInBounds_toArray, List.set_cons_zero, List.set_cons_succ, i64_w, i32_w]
                      rfl
                    refine one_ (i := 4) (N := some 24) #[true, true, true, true, true, false] rfl rfl (by kernel_rfl) (by decide) (fun K hK => ?_)
                    refine goes_ Try.func26 (by kernel_rfl) rfl #[.agg #[.int .i64 ((rd_T32 l0 x12_1).f0), .int .i64 ((rd_T32 l0 x12_1).f1), .int .u64 ((rd_T32 l0 x12_1).f2), .int .i64 ((rd_T32 l0 x12_1).f3.f0), .int .i64 ((rd_T32 l0 x12_1).f3.f1), .int .i64 ((rd_T32 l0 x12_1).f3.f2)], .slice (some ad190) y192.length c0] (by rfl) rfl rfl (by (try simp only [List.map_toArray, List.map_cons, List.map_nil]); first | done | rfl | (simp only [List.length_drop, List.length_take]; rfl)) ?_
                    with_reducible refine (term_right.calls k1 ((rd_T32 l0 x12_1).f0) ((rd_T32 l0 x12_1).f1) ((rd_T32 l0 x12_1).f2) ((rd_T32 l0 x12_1).f3.f0) ((rd_T32 l0 x12_1).f3.f1) ((rd_T32 l0 x12_1).f3.f2) _ _ y192 t196 _ ?side1 ?side2 A11.out).mono ?_
                    (case side1 => repeat (first | exact (Kd.C_below HR195.out HB.out) | (with_reducible refine Kd.C_alloc ?_ _) | (with_reducible refine Kd.C_drewN ?_ _) | (with_reducible refine Kd.C_drew ?_)))
                    (case side2 => exact HC195.out)
                    rintro e w18 ⟨rfl, hb⟩
                    refine ⟨_, rfl, ?_⟩
                    have n0_ := Aside0.mk (blk_below (g := gb191) (o := .cells #[.int .i64 ((rd_T32 l0 x12_1).f0), .int .i64 ((rd_T32 l0 x12_1).f1), .int .u64 ((rd_T32 l0 x12_1).f2), .int .i64 ((rd_T32 l0 x12_1).f3.f0), .int .i64 ((rd_T32 l0 x12_1).f3.f1), .int .i64 ((rd_T32 l0 x12_1).f3.f2)] 32 (0, 0)) (by (with_reducible repeat (first | refine blk_drewN ?_ _ | refine blk_drew ?_ | refine blk_alloc ?_ _)); exact BK191.out) hb)
                    have n1_ := Aside0.mk (below_step (by repeat (first | (with_reducible first | exact HB.out | apply below_alloc | apply pw_below_drewN | apply below_drew1 | refine below_set ?_ GE191.out) | exact HB.out)) hb)
                    clear BK191
                    clear HB
                    have BK191 := n0_
                    have HB := n1_
                    clear n0_ n1_
                    (try clear hb)
                    (try clear hb2)
                    (try clear hk)
                    (try clear hi)
                    refine hK.out _ _ ⟨(blk_cell BK191.out 0).trans rfl, (blk_cell BK191.out 1).trans rfl, (blk_cell BK191.out 2).trans rfl, (blk_cell BK191.out 3).trans rfl, (blk_cell BK191.out 4).trans rfl, (blk_cell BK191.out 5).trans rfl⟩ (fun hHeld => ?_)
                    clear hK K
                    refine norm_ (a' := ?_) ?_ ?_
                    rotate_left
                    · show Act.put _ (some 24) _ = _
                      simp only [Act.put, List.setIfInBounds_toArray, List.set_cons_zero, List.set_cons_succ, i64_w, i32_w]
                      rfl
                    refine pure_ (i := 5) (N := some 6) (v := ?_) (a' := ?_) #[true, true, true, true, true, true] rfl rfl (by kernel_rfl) (fun _ _ _ h => h) (Or.inl ⟨by rfl, ?_⟩) ?_ ?_
                    rotate_left
                    · intro w'
                      go_simp
                      with_reducible rfl
                    rotate_left
                    · simp only [Act.put, List.setIfInBounds_toArray, List.set_cons_zero, List.set_cons_succ, i64_w, i32_w]
                      rfl
                    refine done_ (by kernel_rfl) ?_
                    try go_wp2
                    go_roundg k1
                    case measure => have := HK1.out; omega
                    case rel => exact ⟨(wrap64 (x12_1 + 1)), (by first | rfl | (simp; done) | (simp [*]; done)), H', ⟨by have := HK1.out; omega⟩, ⟨by repeat (first | (with_reducible first | exact HB.out | apply below_alloc | apply pw_below_drewN | apply below_drew1 | refine below_set ?_ GE191.out) | exact HB.out)⟩⟩
                  · rw [if_neg c12] at H
                    have c12b0 : (t196 == 0) = false := beq_eq_false_iff_ne.mpr c12
                    have c12b1 : (t196 != 0) = true := bne_iff_ne.mpr c12
                    simp only [Option.some.injEq, Prod.mk.injEq] at H
                    obtain ⟨rfl, rfl⟩ := H
                    have p190 : 0 ≤ (x12_1 : Int) := of_decide_eq_true (by first | (with_reducible assumption) | assumption)
                    have q190 : x12_1 < (l0.length : Int) := of_decide_eq_true (by first | (with_reducible assumption) | assumption)
                    obtain ⟨ad190, e190, hx190_0, hx190_1, hx190_2, hx190_3, hx190_4, hx190_5⟩ := at_T32 HR0.out x12_1 p190 q190
                    cases e190
                    replace hx190_0 := (HB.out.cell (World.block_lt_of_cell? w _ hx190_0)).trans hx190_0
                    replace hx190_1 := (HB.out.cell (World.block_lt_of_cell? w _ hx190_1)).trans hx190_1
                    replace hx190_2 := (HB.out.cell (World.block_lt_of_cell? w _ hx190_2)).trans hx190_2
                    replace hx190_3 := (HB.out.cell (World.block_lt_of_cell? w _ hx190_3)).trans hx190_3
                    replace hx190_4 := (HB.out.cell (World.block_lt_of_cell? w _ hx190_4)).trans hx190_4
                    replace hx190_5 := (HB.out.cell (World.block_lt_of_cell? w _ hx190_5)).trans hx190_5
                    replace p190 := eq_true p190
                    replace q190 := eq_true q190
                    try go_wp2_with (first | ((with_reducible refine gate_dst (N := 5) rfl ?_); refine box_event ?hg (N := 5) ?hd (cs := #[.int .i64 0, .int .i64 0, .int .u64 0, .int .i64 0, .int .i64 0, .int .i64 0]) (t := 32) ?hr ?_; (case hd => rfl); (case hg => rfl); (case hr => first | (go_simp; done) | (go_simp; rfl)); intro gb191 hg w19 hbox hb; have n0_ := Aside0.mk (below_step (by repeat (first | (with_reducible first | exact HB.out | apply below_alloc | apply pw_below_drewN | apply below_drew1) | exact HB.out)) hb); have n1_ := Aside0.mk (hbox); have n2_ := Aside0.mk ((by rw [hg]; exact (below_size (by repeat (first | (with_reducible first | exact HB.out | apply below_alloc | apply pw_below_drewN | apply below_drew1) | exact HB.out))) : w.heap.size ≤ gb191)); have n3_ := Aside0.mk ((by rw [hg]; exact (below_size (by repeat (first | (with_reducible first | exact HB.out | apply below_alloc | apply pw_below_drewN | apply below_drew1) | exact HB.out))) : w.heap.size ≤ gb191)); clear HB; have HB := n0_; have BK191 := n1_; have GW191 := n2_; have GE191 := n3_; clear n0_ n1_ n2_ n3_; clear hb hbox hg; have hcz20_0 : w19.cell? ⟨gb191, 0, none⟩ = some (.int .i64 0) := (blk_cell BK191.out 0).trans rfl; have hcz20_1 : w19.cell? ⟨gb191, 1, none⟩ = some (.int .i64 0) := (blk_cell BK191.out 1).trans rfl; have hcz20_2 : w19.cell? ⟨gb191, 2, none⟩ = some (.int .u64 0) := (blk_cell BK191.out 2).trans rfl; have hcz20_3 : w19.cell? ⟨gb191, 3, none⟩ = some (.int .i64 0) := (blk_cell BK191.out 3).trans rfl; have hcz20_4 : w19.cell? ⟨gb191, 4, none⟩ = some (.int .i64 0) := (blk_cell BK191.out 4).trans rfl; have hcz20_5 : w19.cell? ⟨gb191, 5, none⟩ = some (.int .i64 0) := (blk_cell BK191.out 5).trans rfl; have hfz20_0 := blk_frozen BK191.out 0; have hfz20_1 := blk_frozen BK191.out 1; have hfz20_2 := blk_frozen BK191.out 2; have hfz20_3 := blk_frozen BK191.out 3; have hfz20_4 := blk_frozen BK191.out 4; have hfz20_5 := blk_frozen BK191.out 5))
                    have n0_ : Aside0 (((((((w19.setCell ⟨gb191, 0, none⟩ (.int .i64 ((rd_T32 l0 x12_1).f0))).setCell ⟨gb191, 1, none⟩ (.int .i64 ((rd_T32 l0 x12_1).f1))).setCell ⟨gb191, 2, none⟩ (.int .u64 ((rd_T32 l0 x12_1).f2))).setCell ⟨gb191, 3, none⟩ (.int .i64 ((rd_T32 l0 x12_1).f3.f0))).setCell ⟨gb191, 4, none⟩ (.int .i64 ((rd_T32 l0 x12_1).f3.f1))).setCell ⟨gb191, 5, none⟩ (.int .i64 ((rd_T32 l0 x12_1).f3.f2))).heap[gb191]? = some (.cells #[.int .i64 ((rd_T32 l0 x12_1).f0), .int .i64 ((rd_T32 l0 x12_1).f1), .int .u64 ((rd_T32 l0 x12_1).f2), .int .i64 ((rd_T32 l0 x12_1).f3.f0), .int .i64 ((rd_T32 l0 x12_1).f3.f1), .int .i64 ((rd_T32 l0 x12_1).f3.f2)] 32 (0, 0))) := ⟨by (with_reducible repeat (first | refine blk_drewN ?_ _ | refine blk_drew ?_ | refine blk_alloc ?_ _)); refine blk_put (cs := #[.int .i64 ((rd_T32 l0 x12_1).f0), .int .i64 ((rd_T32 l0 x12_1).f1), .int .u64 ((rd_T32 l0 x12_1).f2), .int .i64 ((rd_T32 l0 x12_1).f3.f0), .int .i64 ((rd_T32 l0 x12_1).f3.f1), .int .i64 0]) ?_ 5 _ rfl; (with_reducible repeat (first | refine blk_drewN ?_ _ | refine blk_drew ?_ | refine blk_alloc ?_ _)); refine blk_put (cs := #[.int .i64 ((rd_T32 l0 x12_1).f0), .int .i64 ((rd_T32 l0 x12_1).f1), .int .u64 ((rd_T32 l0 x12_1).f2), .int .i64 ((rd_T32 l0 x12_1).f3.f0), .int .i64 0, .int .i64 0]) ?_ 4 _ rfl; (with_reducible repeat (first | refine blk_drewN ?_ _ | refine blk_drew ?_ | refine blk_alloc ?_ _)); refine blk_put (cs := #[.int .i64 ((rd_T32 l0 x12_1).f0), .int .i64 ((rd_T32 l0 x12_1).f1), .int .u64 ((rd_T32 l0 x12_1).f2), .int .i64 0, .int .i64 0, .int .i64 0]) ?_ 3 _ rfl; (with_reducible repeat (first | refine blk_drewN ?_ _ | refine blk_drew ?_ | refine blk_alloc ?_ _)); refine blk_put (cs := #[.int .i64 ((rd_T32 l0 x12_1).f0), .int .i64 ((rd_T32 l0 x12_1).f1), .int .u64 0, .int .i64 0, .int .i64 0, .int .i64 0]) ?_ 2 _ rfl; (with_reducible repeat (first | refine blk_drewN ?_ _ | refine blk_drew ?_ | refine blk_alloc ?_ _)); refine blk_put (cs := #[.int .i64 ((rd_T32 l0 x12_1).f0), .int .i64 0, .int .u64 0, .int .i64 0, .int .i64 0, .int .i64 0]) ?_ 1 _ rfl; (with_reducible repeat (first | refine blk_drewN ?_ _ | refine blk_drew ?_ | refine blk_alloc ?_ _)); refine blk_put (cs := #[.int .i64 0, .int .i64 0, .int .u64 0, .int .i64 0, .int .i64 0, .int .i64 0]) ?_ 0 _ rfl; (with_reducible repeat (first | refine blk_drewN ?_ _ | refine blk_drew ?_ | refine blk_alloc ?_ _)); exact BK191.out⟩
                    have n1_ : Aside0 (Below w.heap.size w ((((((w19.setCell ⟨gb191, 0, none⟩ (.int .i64 ((rd_T32 l0 x12_1).f0))).setCell ⟨gb191, 1, none⟩ (.int .i64 ((rd_T32 l0 x12_1).f1))).setCell ⟨gb191, 2, none⟩ (.int .u64 ((rd_T32 l0 x12_1).f2))).setCell ⟨gb191, 3, none⟩ (.int .i64 ((rd_T32 l0 x12_1).f3.f0))).setCell ⟨gb191, 4, none⟩ (.int .i64 ((rd_T32 l0 x12_1).f3.f1))).setCell ⟨gb191, 5, none⟩ (.int .i64 ((rd_T32 l0 x12_1).f3.f2)))) := ⟨by repeat (first | (with_reducible first | exact HB.out | apply below_alloc | apply pw_below_drewN | apply below_drew1 | refine below_set ?_ GE191.out) | exact HB.out)⟩
                    (try clear BK191)
                    (try clear HB)
                    generalize ((((((w19.setCell ⟨gb191, 0, none⟩ (.int .i64 ((rd_T32 l0 x12_1).f0))).setCell ⟨gb191, 1, none⟩ (.int .i64 ((rd_T32 l0 x12_1).f1))).setCell ⟨gb191, 2, none⟩ (.int .u64 ((rd_T32 l0 x12_1).f2))).setCell ⟨gb191, 3, none⟩ (.int .i64 ((rd_T32 l0 x12_1).f3.f0))).setCell ⟨gb191, 4, none⟩ (.int .i64 ((rd_T32 l0 x12_1).f3.f1))).setCell ⟨gb191, 5, none⟩ (.int .i64 ((rd_T32 l0 x12_1).f3.f2))) = w21 at n0_ n1_ ⊢
                    have BK191 := n0_
                    have HB := n1_
                    clear n0_ n1_
                    have n0_ := Aside0.mk (blk_drew BK191.out)
                    have n1_ := Aside0.mk (below_drew1 HB.out)
                    clear BK191
                    clear HB
                    have BK191 := n0_
                    have HB := n1_
                    clear n0_ n1_
                    have q23 : (x12_1 : Int) ≤ ((l0.length : Int) : Int) := of_decide_eq_true (by first | (with_reducible assumption) | assumption)
                    obtain ⟨i023, hi023, _, hsz23, _⟩ := info_parts info32
                    have hroom23 : l0.length ≤ c0 := HC0.out
                    have hC23 : Kd.C k32 _ (some ad190) l0.length l0 := HR0.out
                    have hcut23 := cut_to (P := Try.prog) 22 32 .i64 Try.underlying22 hi023 (some ad190) l0.length c0 x12_1 (of_decide_eq_true (by first | (with_reducible assumption) | assumption)) q23 hroom23
                    have hr23 := Kd.C_take (m := (x12_1 : Int).toNat) hC23 (by omega)
                    have hy23 : y192.length = (x12_1 : Int).toNat := (by rw [Ny192.out, List.length_take]; omega)
                    rw [← Ny192.out] at hr23
                    rw [← hy23] at hcut23
                    have HR195 := Aside0.mk hr23
                    have HC195 := Aside0.mk (show y192.length ≤ c0 from by omega)
                    clear hr23 hC23 hroom23 hi023 hsz23
                    have KY23 := Aside0.mk hy23
                    clear hy23
                    replace q23 := eq_true q23
                    refine start_ (n := 6) (S := fun w' => w'.cell? ⟨gb191, 0, none⟩ = some (.int .i64 ((rd_T32 l0 x12_1).f0)) ∧ w'.cell? ⟨gb191, 1, none⟩ = some (.int .i64 ((rd_T32 l0 x12_1).f1)) ∧ w'.cell? ⟨gb191, 2, none⟩ = some (.int .u64 ((rd_T32 l0 x12_1).f2)) ∧ w'.cell? ⟨gb191, 3, none⟩ = some (.int .i64 ((rd_T32 l0 x12_1).f3.f0)) ∧ w'.cell? ⟨gb191, 4, none⟩ = some (.int .i64 ((rd_T32 l0 x12_1).f3.f1)) ∧ w'.cell? ⟨gb191, 5, none⟩ = some (.int .i64 ((rd_T32 l0 x12_1).f3.f2))) (ds := []) #[false, false, false, false, false, false] (by kernel_rfl) rfl rfl ⟨(blk_cell BK191.out 0).trans rfl, (blk_cell BK191.out 1).trans rfl, (blk_cell BK191.out 2).trans rfl, (blk_cell BK191.out 3).trans rfl, (blk_cell BK191.out 4).trans rfl, (blk_cell BK191.out 5).trans rfl⟩ (fun hHeld => ?_)
                    generalize w21.drew = w22 at BK191 HB HR195 hHeld ⊢
                    refine pure_ (i := 1) (N := some 21) (v := ?_) (a' := ?_) #[false, true, false, false, false, false] rfl rfl (by kernel_rfl) (fun _ _ _ h => h) (Or.inl ⟨by rfl, ?_⟩) ?_ ?_
                    rotate_left
                    · intro w'
                      go_simp
                      with_reducible rfl
                    rotate_left
                    · simp only [Act.put, List.setIfInBounds_toArray, List.set_cons_zero, List.set_cons_succ, i64_w, i32_w]
                      rfl
                    refine pure_ (i := 2) (N := some 22) (v := ?_) (a' := ?_) #[false, true, true, false, false, false] rfl rfl (by kernel_rfl) (fun _ _ _ h => h) (Or.inl ⟨by rfl, ?_⟩) ?_ ?_
                    rotate_left
                    · intro w'
                      go_simp
                      with_reducible rfl
                    rotate_left
                    · simp only [Act.put, List.setIfInBounds_toArray, List.set_cons_zero, List.set_cons_succ, i64_w, i32_w]
                      rfl
                    refine pure_ (i := 3) (N := some 23) (v := ?_) (a' := ?_) #[false, true, true, true, false, false] rfl rfl (by kernel_rfl) (fun _ _ _ h => h) (Or.inl ⟨by rfl, ?_⟩) ?_ ?_
                    rotate_left
                    · intro w'
                      go_simp
                      with_reducible rfl
                    rotate_left
                    · simp only [Act.put, List.setIfInBounds_toArray, List.set_cons_zero, List.set_cons_succ, i64_w, i32_w]
                      rfl
                    refine take_ (i := 0) (N := some 20) (v := ?_) (a' := ?_) #[true, true, true, true, false, false] rfl rfl (by kernel_rfl) (fun _ _ _ h => h) (Or.inl ⟨by rfl, ?_⟩) hHeld ?_ ?_
                    rotate_left
                    · rintro w' ⟨s0, s1, s2, s3, s4, s5⟩
                      go_simp
                      with_reducible rfl
                    rotate_left
                    · simp only [Act.put, List.setIfInBounds_toArray, List.set_cons_zero, List.set_cons_succ, i64_w, i32_w]
                      rfl
                    refine one_ (i := 4) (N := some 24) #[true, true, true, true, true, false] rfl rfl (by kernel_rfl) (by decide) (fun K hK => ?_)
                    refine goes_ Try.func26 (by kernel_rfl) rfl #[.agg #[.int .i64 ((rd_T32 l0 x12_1).f0), .int .i64 ((rd_T32 l0 x12_1).f1), .int .u64 ((rd_T32 l0 x12_1).f2), .int .i64 ((rd_T32 l0 x12_1).f3.f0), .int .i64 ((rd_T32 l0 x12_1).f3.f1), .int .i64 ((rd_T32 l0 x12_1).f3.f2)], .slice (some ad190) y192.length c0] (by rfl) rfl rfl (by (try simp only [List.map_toArray, List.map_cons, List.map_nil]); first | done | rfl | (simp only [List.length_drop, List.length_take]; rfl)) ?_
                    with_reducible refine (term_right.calls k1 ((rd_T32 l0 x12_1).f0) ((rd_T32 l0 x12_1).f1) ((rd_T32 l0 x12_1).f2) ((rd_T32 l0 x12_1).f3.f0) ((rd_T32 l0 x12_1).f3.f1) ((rd_T32 l0 x12_1).f3.f2) _ _ y192 t196 _ ?side1 ?side2 A11.out).mono ?_
                    (case side1 => repeat (first | exact (Kd.C_below HR195.out HB.out) | (with_reducible refine Kd.C_alloc ?_ _) | (with_reducible refine Kd.C_drewN ?_ _) | (with_reducible refine Kd.C_drew ?_)))
                    (case side2 => exact HC195.out)
                    rintro e w24 ⟨rfl, hb⟩
                    refine ⟨_, rfl, ?_⟩
                    have n0_ := Aside0.mk (blk_below (g := gb191) (o := .cells #[.int .i64 ((rd_T32 l0 x12_1).f0), .int .i64 ((rd_T32 l0 x12_1).f1), .int .u64 ((rd_T32 l0 x12_1).f2), .int .i64 ((rd_T32 l0 x12_1).f3.f0), .int .i64 ((rd_T32 l0 x12_1).f3.f1), .int .i64 ((rd_T32 l0 x12_1).f3.f2)] 32 (0, 0)) (by (with_reducible repeat (first | refine blk_drewN ?_ _ | refine blk_drew ?_ | refine blk_alloc ?_ _)); exact BK191.out) hb)
                    have n1_ := Aside0.mk (below_step (by repeat (first | (with_reducible first | exact HB.out | apply below_alloc | apply pw_below_drewN | apply below_drew1 | refine below_set ?_ GE191.out) | exact HB.out)) hb)
                    clear BK191
                    clear HB
                    have BK191 := n0_
                    have HB := n1_
                    clear n0_ n1_
                    (try clear hb)
                    (try clear hb2)
                    (try clear hk)
                    (try clear hi)
                    refine hK.out _ _ ⟨(blk_cell BK191.out 0).trans rfl, (blk_cell BK191.out 1).trans rfl, (blk_cell BK191.out 2).trans rfl, (blk_cell BK191.out 3).trans rfl, (blk_cell BK191.out 4).trans rfl, (blk_cell BK191.out 5).trans rfl⟩ (fun hHeld => ?_)
                    clear hK K
                    refine norm_ (a' := ?_) ?_ ?_
                    rotate_left
                    · show Act.put _ (some 24) _ = _
                      simp only [Act.put, List.setIfInBounds_toArray, List.set_cons_zero, List.set_cons_succ, i64_w, i32_w]
                      rfl
                    refine pure_ (i := 5) (N := some 6) (v := ?_) (a' := ?_) #[true, true, true, true, true, true] rfl rfl (by kernel_rfl) (fun _ _ _ h => h) (Or.inl ⟨by rfl, ?_⟩) ?_ ?_
                    rotate_left
                    · intro w'
                      go_simp
                      with_reducible rfl
                    rotate_left
                    · simp only [Act.put, List.setIfInBounds_toArray, List.set_cons_zero, List.set_cons_succ, i64_w, i32_w]
                      rfl
                    refine done_ (by kernel_rfl) ?_
                    try go_wp2
                    go_ret2
                    exact ⟨by first | rfl | (simp [errW_none, errW_some] <;> rfl) | (simp [*, errW_none, errW_some] <;> rfl), by repeat (first | (with_reducible first | exact HB.out | apply below_alloc | apply pw_below_drewN | apply below_drew1 | refine below_set ?_ GE191.out) | exact HB.out)⟩
                · rw [if_neg c10] at H
                  exact absurd H (by simp)
            · rw [if_neg c5] at H
              exact absurd H (by simp)
          · rw [if_neg c4] at H
            exact absurd H (by simp)
        · rw [if_neg c3] at H
          have c3b0 : decide (x12_1 < (l0.length : Int)) = false := decide_eq_false c3
          clear c3
          simp only [Option.some.injEq, Prod.mk.injEq] at H
          obtain ⟨rfl, rfl⟩ := H
          go_wp2
          go_ret2
          exact ⟨by first | rfl | (simp [errW_none, errW_some] <;> rfl) | (simp [*, errW_none, errW_some] <;> rfl), by repeat (first | (with_reducible first | exact HB.out | apply below_alloc | apply pw_below_drewN | apply below_drew1) | exact HB.out)⟩

end Go.Proofs.Ytkindfbbklkjdaa.P
