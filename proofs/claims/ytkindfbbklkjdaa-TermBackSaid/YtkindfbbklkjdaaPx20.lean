/- What Go functions compute, and their walks: written by a program of this session (a turned copy of the kit's print) out of the translation. -/
import Derived.Test.YtkindfbbklkjdaaPx0
import Derived.Test.YtkindfbbklkjdaaPx13
namespace Go.Proofs.Ytkindfbbklkjdaa.P
open Go.RowKit Go.Proofs.YtkindfbbklkjdaaW.PrintWords Go.Proofs.YtkindfbbklkjdaaW.PrintLast Go.Proofs.YtkindfbbklkjdaaW.PrintMore
attribute [local go_sem] max2_int min2_int max_two min_two max_three min_three max_four min_four   -- for this text's walks alone
set_option linter.unusedVariables false
set_option linter.unusedSimpArgs false

/-! ### backreachref06_told: function 31 -/
def backreachref06_told.l0 : Nat → List Int → Int → Int → Int → Int → Int → Int → Int → Option (Int × Int × Int × Int × Int × Int)
  | 0, _, _, _, _, _, _, _, _ => none
  | k + 1, x1, x5, x158000, x158001, x158002, x158003, x158004, x158005 => (backreachref06_Kids.f k x158000).bind fun t159 => (if x5 < t159 then (if x5 = 0 then (if 0 ≤ x158003 then (if x158003 < (x1.length : Int) then (backreachref06_told.l0 k x1 (wrap64 (x5 + 1)) x158000 x158001 x158002 (rd x1 x158003) x158004 x158005) else (none)) else (none)) else (if x5 = 1 then (if 0 ≤ x158004 then (if x158004 < (x1.length : Int) then (backreachref06_told.l0 k x1 (wrap64 (x5 + 1)) x158000 x158001 x158002 x158003 (rd x1 x158004) x158005) else (none)) else (none)) else (if x5 = 2 then (if 0 ≤ x158005 then (if x158005 < (x1.length : Int) then (backreachref06_told.l0 k x1 (wrap64 (x5 + 1)) x158000 x158001 x158002 x158003 x158004 (rd x1 x158005)) else (none)) else (none)) else (none)))) else (some (x158000, x158001, x158002, x158003, x158004, x158005)))
def backreachref06_told.f (k : Nat) (a0_0 : Int) (a0_1 : Int) (a0_2 : Int) (a0_3 : Int) (a0_4 : Int) (a0_5 : Int) (l1 : List Int) : Option (Int × Int × Int × Int × Int × Int) := backreachref06_told.l0 k l1 0 a0_0 a0_1 a0_2 a0_3 a0_4 a0_5
theorem backreachref06_told.mono_l : ∀ k, (∀ y0 y1 y2 y3 y4 y5 y6 y7, LeO (backreachref06_told.l0 k y0 y1 y2 y3 y4 y5 y6 y7) (backreachref06_told.l0 (k + 1) y0 y1 y2 y3 y4 y5 y6 y7))
  | 0 => fun _ _ _ _ _ _ _ _ r h => by simp [backreachref06_told.l0] at h
  | k + 1 => by
    have ih0 := backreachref06_told.mono_l k
    · intro y0 y1 y2 y3 y4 y5 y6 y7
      unfold backreachref06_told.l0
      repeat' first
      | (with_reducible exact ih0 _ _ _ _ _ _ _ _)
      | (with_reducible exact backreachref06_Kids.mono _ _)
      | (with_reducible exact LeO.refl _)
      | (with_reducible exact LeO.none _)
      | (with_reducible refine LeO.ite ?_ ?_)
      | (with_reducible refine LeO.bind ?_ (fun _ => ?_))
      | exact ih0 _ _ _ _ _ _ _ _
      | exact backreachref06_Kids.mono _ _
      | exact LeO.none _
      | refine LeO.ite ?_ ?_
      | refine LeO.bind ?_ (fun _ => ?_)
theorem backreachref06_told.mono : ∀ a0 a1 a2 a3 a4 a5 a6 k, LeO (backreachref06_told.f k a0 a1 a2 a3 a4 a5 a6) (backreachref06_told.f (k + 1) a0 a1 a2 a3 a4 a5 a6) := by
  intro a0 a1 a2 a3 a4 a5 a6 k
  have ih0 := backreachref06_told.mono_l k
  unfold backreachref06_told.f
  repeat' first
      | (with_reducible exact ih0 _ _ _ _ _ _ _ _)
      | (with_reducible exact backreachref06_Kids.mono _ _)
      | (with_reducible exact LeO.refl _)
      | (with_reducible exact LeO.none _)
      | (with_reducible refine LeO.ite ?_ ?_)
      | (with_reducible refine LeO.bind ?_ (fun _ => ?_))
      | exact ih0 _ _ _ _ _ _ _ _
      | exact backreachref06_Kids.mono _ _
      | exact LeO.none _
      | refine LeO.ite ?_ ?_
      | refine LeO.bind ?_ (fun _ => ?_)
set_option maxHeartbeats 8000000 in
set_option maxRecDepth 100000 in
theorem backreachref06_told.calls (k : Nat) (a0_0 : Int) (a0_1 : Int) (a0_2 : Int) (a0_3 : Int) (a0_4 : Int) (a0_5 : Int) (A1 : Option Addr) (c1 : Nat) (l1 : List Int) (r1 : Int) (r2 : Int) (r3 : Int) (r4 : Int) (r5 : Int) (r6 : Int) (w : World) (hr1 : Kd.C (Kd.int .i64) w A1 l1.length l1) (hc1 : l1.length ≤ c1) (h : backreachref06_told.f k a0_0 a0_1 a0_2 a0_3 a0_4 a0_5 l1 = some (r1, r2, r3, r4, r5, r6)) :
    Calls Try.prog 31 #[.agg #[.int .i64 a0_0, .int .i64 a0_1, .int .u64 a0_2, .int .i64 a0_3, .int .i64 a0_4, .int .i64 a0_5], .slice A1 l1.length c1] w fun e w' => e = .returned (.agg #[.int .i64 r1, .int .i64 r2, .int .u64 r3, .int .i64 r4, .int .i64 r5, .int .i64 r6]) ∧ Below w.heap.size w w' := by
  have hu32 := Try.underlying32
  have HR1 := Aside0.mk hr1
  have HC1 := Aside0.mk hc1
  clear hr1 hc1
  have HB := Aside0.mk (Below.refl w.heap.size w)
  have H : (backreachref06_told.l0 k l1 0 a0_0 a0_1 a0_2 a0_3 a0_4 a0_5) = some (r1, r2, r3, r4, r5, r6) := h
  clear h
  have H' := Aside0.mk H
  clear H
  go_enter Try.func31, Try.ntmps31
  go_wp2_with (first | ((with_reducible refine gate_dst (N := 2) rfl ?_); refine box_event ?hg (N := 2) ?hd (cs := #[.int .i64 a0_0, .int .i64 a0_1, .int .u64 a0_2, .int .i64 a0_3, .int .i64 a0_4, .int .i64 a0_5]) (t := 32) ?hr ?_; (case hd => rfl); (case hg => rfl); (case hr => first | (go_simp; done) | (go_simp; rfl)); intro gb157 hg w3 hbox hb; have n0_ := Aside0.mk (below_step (by repeat (first | (with_reducible first | exact HB.out | apply below_alloc | apply pw_below_drewN | apply below_drew1) | exact HB.out)) hb); have n1_ := Aside0.mk (hbox); have n2_ := Aside0.mk ((by rw [hg]; exact (below_size (by repeat (first | (with_reducible first | exact HB.out | apply below_alloc | apply pw_below_drewN | apply below_drew1) | exact HB.out))) : w.heap.size ≤ gb157)); have n3_ := Aside0.mk ((by rw [hg]; exact (below_size (by repeat (first | (with_reducible first | exact HB.out | apply below_alloc | apply pw_below_drewN | apply below_drew1) | exact HB.out))) : w.heap.size ≤ gb157)); clear HB; have HB := n0_; have BK157 := n1_; have GW157 := n2_; have GE157 := n3_; clear n0_ n1_ n2_ n3_; clear hb hbox hg) | ((with_reducible refine gate_dst (N := 4) rfl ?_); refine box_event ?hg (N := 4) ?hd (cs := #[.int .i64 0, .int .i64 0, .int .u64 0, .int .i64 0, .int .i64 0, .int .i64 0]) (t := 32) ?hr ?_; (case hd => rfl); (case hg => rfl); (case hr => first | (go_simp; done) | (go_simp; rfl)); intro gb158 hg w4 hbox hb; have n0_ := Aside0.mk (blk_below (g := gb157) (o := .cells #[.int .i64 a0_0, .int .i64 a0_1, .int .u64 a0_2, .int .i64 a0_3, .int .i64 a0_4, .int .i64 a0_5] 32 (0, 0)) (by (with_reducible repeat (first | refine blk_drewN ?_ _ | refine blk_drew ?_ | refine blk_alloc ?_ _)); exact BK157.out) hb); have n1_ := Aside0.mk (below_step (by repeat (first | (with_reducible first | exact HB.out | apply below_alloc | apply pw_below_drewN | apply below_drew1 | refine below_set ?_ GE157.out) | exact HB.out)) hb); have n2_ := Aside0.mk (hbox); have n3_ := Aside0.mk ((by rw [hg]; exact (below_size (by repeat (first | (with_reducible first | exact HB.out | apply below_alloc | apply pw_below_drewN | apply below_drew1 | refine below_set ?_ GE157.out) | exact HB.out))) : w.heap.size ≤ gb158)); have n4_ := Aside0.mk ((by rw [hg]; exact (below_size (by repeat (first | (with_reducible first | exact HB.out | apply below_alloc | apply pw_below_drewN | apply below_drew1 | refine below_set ?_ GE157.out) | exact HB.out))) : w.heap.size ≤ gb158)); have n5_ := Aside0.mk ((by rw [hg]; exact Nat.ne_of_lt (blk_lt (g := gb157) (o := .cells #[.int .i64 a0_0, .int .i64 a0_1, .int .u64 a0_2, .int .i64 a0_3, .int .i64 a0_4, .int .i64 a0_5] 32 (0, 0)) (by (with_reducible repeat (first | refine blk_drewN ?_ _ | refine blk_drew ?_ | refine blk_alloc ?_ _)); exact BK157.out)) : gb157 ≠ gb158)); have n6_ := Aside0.mk ((by rw [hg]; exact Nat.ne_of_gt (blk_lt (g := gb157) (o := .cells #[.int .i64 a0_0, .int .i64 a0_1, .int .u64 a0_2, .int .i64 a0_3, .int .i64 a0_4, .int .i64 a0_5] 32 (0, 0)) (by (with_reducible repeat (first | refine blk_drewN ?_ _ | refine blk_drew ?_ | refine blk_alloc ?_ _)); exact BK157.out)) : gb158 ≠ gb157)); clear BK157; clear HB; have BK157 := n0_; have HB := n1_; have BK158 := n2_; have GW158 := n3_; have GE158 := n4_; have NB157_158 := n5_; have NB158_157 := n6_; clear n0_ n1_ n2_ n3_ n4_ n5_ n6_; clear hb hbox hg))
  go_loopg [5] k (fun kq v5 w' => ∃ (x5_1 : Int) (x158003_1 : Int) (x158004_1 : Int) (x158005_1 : Int), v5 = .int .i64 x5_1 ∧ Aside0 (backreachref06_told.l0 kq l1 x5_1 a0_0 a0_1 a0_2 x158003_1 x158004_1 x158005_1 = some (r1, r2, r3, r4, r5, r6)) ∧ Aside0 (kq ≤ k) ∧ Aside0 (w'.heap[gb157]? = some (.cells #[.int .i64 a0_0, .int .i64 a0_1, .int .u64 a0_2, .int .i64 x158003_1, .int .i64 x158004_1, .int .i64 x158005_1] 32 (0, 0))) ∧ Aside0 (w'.heap[gb158]? = some (.cells #[.int .i64 0, .int .i64 0, .int .u64 0, .int .i64 0, .int .i64 0, .int .i64 0] 32 (0, 0))) ∧ Aside0 (Below w.heap.size w w'))
  case atStart => exact ⟨(0), (a0_3), (a0_4), (a0_5), (by first | rfl | (simp; done) | (simp [*]; done)), H', ⟨Nat.le_refl _⟩, ⟨by (with_reducible repeat (first | refine blk_drewN ?_ _ | refine blk_drew ?_ | refine blk_alloc ?_ _)); exact BK157.out⟩, ⟨by (with_reducible repeat (first | refine blk_drewN ?_ _ | refine blk_drew ?_ | refine blk_alloc ?_ _)); exact BK158.out⟩, ⟨by repeat (first | (with_reducible first | exact HB.out | apply below_alloc | apply pw_below_drewN | apply below_drew1 | refine below_set ?_ GE157.out | refine below_set ?_ GE158.out) | exact HB.out)⟩⟩
  case round =>
    clear H'
    try clear c1
    try clear p2
    try clear c3
    obtain ⟨x5_1, x158003_1, x158004_1, x158005_1, rfl, HA, HK1, BK157, BK158, HB⟩ := hrel
    cases gk with
    | zero => exact absurd HA.out (by simp [backreachref06_told.l0])
    | succ k1 =>
      have H := HA.out
      clear HA
      simp only [backreachref06_told.l0] at H
      replace H := Option.bind_eq_some_iff.mp H
      obtain ⟨t159, A50, H⟩ := H
      replace H : (if x5_1 < t159 then (if x5_1 = 0 then (if 0 ≤ x158003_1 then (if x158003_1 < (l1.length : Int) then (backreachref06_told.l0 k1 l1 (wrap64 (x5_1 + 1)) a0_0 a0_1 a0_2 (rd l1 x158003_1) x158004_1 x158005_1) else (none)) else (none)) else (if x5_1 = 1 then (if 0 ≤ x158004_1 then (if x158004_1 < (l1.length : Int) then (backreachref06_told.l0 k1 l1 (wrap64 (x5_1 + 1)) a0_0 a0_1 a0_2 x158003_1 (rd l1 x158004_1) x158005_1) else (none)) else (none)) else (if x5_1 = 2 then (if 0 ≤ x158005_1 then (if x158005_1 < (l1.length : Int) then (backreachref06_told.l0 k1 l1 (wrap64 (x5_1 + 1)) a0_0 a0_1 a0_2 x158003_1 x158004_1 (rd l1 x158005_1)) else (none)) else (none)) else (none)))) else (some (a0_0, a0_1, a0_2, x158003_1, x158004_1, x158005_1))) = some (r1, r2, r3, r4, r5, r6) := H
      have A5 := Aside0.mk A50
      clear A50
      by_cases c6 : x5_1 < t159
      · rw [if_pos c6] at H
        have c6b0 : decide (x5_1 < t159) = true := decide_eq_true c6
        clear c6
        by_cases c7 : x5_1 = 0
        · rw [if_pos c7] at H
          have c7b0 : (x5_1 == 0) = true := beq_iff_eq.mpr c7
          have c7b1 : (x5_1 != 0) = false := bne_eq_false_iff_eq.mpr c7
          clear c7
          have hai8_ : (x5_1 : Int) = 0 := beq_iff_eq.mp (by first | (with_reducible assumption) | assumption)
          have p8 : (0 ≤ (x5_1 : Int)) = True := eq_true (by omega)
          have q8 : ((x5_1 : Int) < 3) = True := eq_true (by omega)
          have qi8 : True → (x5_1 : Int).toNat = 0 := fun _ => by omega
          clear hai8_
          by_cases c9 : 0 ≤ x158003_1
          · rw [if_pos c9] at H
            have c9b0 : decide (0 ≤ x158003_1) = true := decide_eq_true c9
            clear c9
            by_cases c10 : x158003_1 < (l1.length : Int)
            · rw [if_pos c10] at H
              have c10b0 : decide (x158003_1 < (l1.length : Int)) = true := decide_eq_true c10
              clear c10
              have hai11_ : (x5_1 : Int) = 0 := beq_iff_eq.mp (by first | (with_reducible assumption) | assumption)
              have p11 : (0 ≤ (x5_1 : Int)) = True := eq_true (by omega)
              have q11 : ((x5_1 : Int) < 3) = True := eq_true (by omega)
              have qi11 : True → (x5_1 : Int).toNat = 0 := fun _ => by omega
              clear hai11_
              have H' := Aside0.mk H
              clear H
              have hnb12 := NB157_158.out
              have hnc12 := NB158_157.out
              have hcz13_0 : wr.cell? ⟨gb157, 0, none⟩ = some (.int .i64 a0_0) := (blk_cell BK157.out 0).trans rfl
              have hcz13_1 : wr.cell? ⟨gb157, 1, none⟩ = some (.int .i64 a0_1) := (blk_cell BK157.out 1).trans rfl
              have hcz13_2 : wr.cell? ⟨gb157, 2, none⟩ = some (.int .u64 a0_2) := (blk_cell BK157.out 2).trans rfl
              have hcz13_3 : wr.cell? ⟨gb157, 3, none⟩ = some (.int .i64 x158003_1) := (blk_cell BK157.out 3).trans rfl
              have hcz13_4 : wr.cell? ⟨gb157, 4, none⟩ = some (.int .i64 x158004_1) := (blk_cell BK157.out 4).trans rfl
              have hcz13_5 : wr.cell? ⟨gb157, 5, none⟩ = some (.int .i64 x158005_1) := (blk_cell BK157.out 5).trans rfl
              have hfz13_0 := blk_frozen BK157.out 0
              have hfz13_1 := blk_frozen BK157.out 1
              have hfz13_2 := blk_frozen BK157.out 2
              have hfz13_3 := blk_frozen BK157.out 3
              have hfz13_4 := blk_frozen BK157.out 4
              have hfz13_5 := blk_frozen BK157.out 5
              go_wp2_with (first | ((with_reducible refine gate_callee (f := 22) rfl ?_); refine goesL_ (some 9) rfl rfl Try.func22 (by kernel_rfl) rfl #[.int .i64 a0_0] rfl (by (try simp only [List.map_toArray, List.map_cons, List.map_nil]); first | done | rfl | (simp only [List.length_drop, List.length_take]; rfl)) ?_; (with_reducible refine (backreachref06_Kids.calls k1 a0_0 t159 _ A5.out).mono ?_); rintro e w' ⟨rfl, ⟨nd, rfl⟩⟩; refine ⟨_, rfl, ?_⟩; (try (rw [drewN_self wr]; generalize hq_ : World.drewN wr _ = wr; have n0_ : Aside0 (wr.heap[gb157]? = some (.cells #[.int .i64 a0_0, .int .i64 a0_1, .int .u64 a0_2, .int .i64 x158003_1, .int .i64 x158004_1, .int .i64 x158005_1] 32 (0, 0))) := ⟨by rw [← hq_]; exact (by (with_reducible repeat (first | refine blk_drewN ?_ _ | refine blk_drew ?_ | refine blk_alloc ?_ _)); exact BK157.out)⟩; have n1_ : Aside0 (wr.heap[gb158]? = some (.cells #[.int .i64 0, .int .i64 0, .int .u64 0, .int .i64 0, .int .i64 0, .int .i64 0] 32 (0, 0))) := ⟨by rw [← hq_]; exact (by (with_reducible repeat (first | refine blk_drewN ?_ _ | refine blk_drew ?_ | refine blk_alloc ?_ _)); exact BK158.out)⟩; have n2_ : Aside0 (Below w.heap.size w wr) := ⟨by rw [← hq_]; exact (by repeat (first | (with_reducible first | exact HB.out | apply below_alloc | apply pw_below_drewN | apply below_drew1 | refine below_set ?_ GE157.out | refine below_set ?_ GE158.out) | exact HB.out))⟩; clear BK157 BK158 HB hq_; have BK157 := n0_; have BK158 := n1_; have HB := n2_; clear n0_ n1_ n2_)); have hcz14_0 : wr.cell? ⟨gb157, 0, none⟩ = some (.int .i64 a0_0) := (blk_cell BK157.out 0).trans rfl; have hcz14_1 : wr.cell? ⟨gb157, 1, none⟩ = some (.int .i64 a0_1) := (blk_cell BK157.out 1).trans rfl; have hcz14_2 : wr.cell? ⟨gb157, 2, none⟩ = some (.int .u64 a0_2) := (blk_cell BK157.out 2).trans rfl; have hcz14_3 : wr.cell? ⟨gb157, 3, none⟩ = some (.int .i64 x158003_1) := (blk_cell BK157.out 3).trans rfl; have hcz14_4 : wr.cell? ⟨gb157, 4, none⟩ = some (.int .i64 x158004_1) := (blk_cell BK157.out 4).trans rfl; have hcz14_5 : wr.cell? ⟨gb157, 5, none⟩ = some (.int .i64 x158005_1) := (blk_cell BK157.out 5).trans rfl; have hfz14_0 := blk_frozen BK157.out 0; have hfz14_1 := blk_frozen BK157.out 1; have hfz14_2 := blk_frozen BK157.out 2; have hfz14_3 := blk_frozen BK157.out 3; have hfz14_4 := blk_frozen BK157.out 4; have hfz14_5 := blk_frozen BK157.out 5; have p160 : 0 ≤ (x158003_1 : Int) := of_decide_eq_true (by first | (with_reducible assumption) | assumption); have q160 : x158003_1 < (l1.length : Int) := of_decide_eq_true (by first | (with_reducible assumption) | assumption); obtain ⟨ad160, e160, hx160_0⟩ := Kd.at_int HR1.out x158003_1 p160 q160; cases e160; replace hx160_0 := (HB.out.cell (World.block_lt_of_cell? w _ hx160_0)).trans hx160_0; replace p160 := eq_true p160; replace q160 := eq_true q160))
              go_roundg k1
              case measure => have := HK1.out; omega
              case rel => exact ⟨(wrap64 (x5_1 + 1)), (rd l1 x158003_1), (x158004_1), (x158005_1), (by first | rfl | (simp; done) | (simp [*]; done)), H', ⟨by have := HK1.out; omega⟩, ⟨by (with_reducible repeat (first | refine blk_drewN ?_ _ | refine blk_drew ?_ | refine blk_alloc ?_ _)); refine blk_put (cs := #[.int .i64 a0_0, .int .i64 a0_1, .int .u64 a0_2, .int .i64 x158003_1, .int .i64 x158004_1, .int .i64 x158005_1]) ?_ 3 _ rfl; (with_reducible repeat (first | refine blk_drewN ?_ _ | refine blk_drew ?_ | refine blk_alloc ?_ _)); exact BK157.out⟩, ⟨by (with_reducible repeat (first | refine blk_drewN ?_ _ | refine blk_drew ?_ | refine blk_alloc ?_ _)); refine blk_far ?_ NB158_157.out _; (with_reducible repeat (first | refine blk_drewN ?_ _ | refine blk_drew ?_ | refine blk_alloc ?_ _)); exact BK158.out⟩, ⟨by repeat (first | (with_reducible first | exact HB.out | apply below_alloc | apply pw_below_drewN | apply below_drew1 | refine below_set ?_ GE157.out | refine below_set ?_ GE158.out) | exact HB.out)⟩⟩
            · rw [if_neg c10] at H
              exact absurd H (by simp)
          · rw [if_neg c9] at H
            exact absurd H (by simp)
        · rw [if_neg c7] at H
          have c7b0 : (x5_1 == 0) = false := beq_eq_false_iff_ne.mpr c7
          have c7b1 : (x5_1 != 0) = true := bne_iff_ne.mpr c7
          by_cases c15 : x5_1 = 1
          · rw [if_pos c15] at H
            have c15b0 : (x5_1 == 1) = true := beq_iff_eq.mpr c15
            have c15b1 : (x5_1 != 1) = false := bne_eq_false_iff_eq.mpr c15
            clear c15
            have hai16_ : (x5_1 : Int) = 1 := beq_iff_eq.mp (by first | (with_reducible assumption) | assumption)
            have p16 : (0 ≤ (x5_1 : Int)) = True := eq_true (by omega)
            have q16 : ((x5_1 : Int) < 3) = True := eq_true (by omega)
            have qi16 : True → (x5_1 : Int).toNat = 1 := fun _ => by omega
            clear hai16_
            by_cases c17 : 0 ≤ x158004_1
            · rw [if_pos c17] at H
              have c17b0 : decide (0 ≤ x158004_1) = true := decide_eq_true c17
              clear c17
              by_cases c18 : x158004_1 < (l1.length : Int)
              · rw [if_pos c18] at H
                have c18b0 : decide (x158004_1 < (l1.length : Int)) = true := decide_eq_true c18
                clear c18
                have hai19_ : (x5_1 : Int) = 1 := beq_iff_eq.mp (by first | (with_reducible assumption) | assumption)
                have p19 : (0 ≤ (x5_1 : Int)) = True := eq_true (by omega)
                have q19 : ((x5_1 : Int) < 3) = True := eq_true (by omega)
                have qi19 : True → (x5_1 : Int).toNat = 1 := fun _ => by omega
                clear hai19_
                have H' := Aside0.mk H
                clear H
                have hnb20 := NB157_158.out
                have hnc20 := NB158_157.out
                have hcz21_0 : wr.cell? ⟨gb157, 0, none⟩ = some (.int .i64 a0_0) := (blk_cell BK157.out 0).trans rfl
                have hcz21_1 : wr.cell? ⟨gb157, 1, none⟩ = some (.int .i64 a0_1) := (blk_cell BK157.out 1).trans rfl
                have hcz21_2 : wr.cell? ⟨gb157, 2, none⟩ = some (.int .u64 a0_2) := (blk_cell BK157.out 2).trans rfl
                have hcz21_3 : wr.cell? ⟨gb157, 3, none⟩ = some (.int .i64 x158003_1) := (blk_cell BK157.out 3).trans rfl
                have hcz21_4 : wr.cell? ⟨gb157, 4, none⟩ = some (.int .i64 x158004_1) := (blk_cell BK157.out 4).trans rfl
                have hcz21_5 : wr.cell? ⟨gb157, 5, none⟩ = some (.int .i64 x158005_1) := (blk_cell BK157.out 5).trans rfl
                have hfz21_0 := blk_frozen BK157.out 0
                have hfz21_1 := blk_frozen BK157.out 1
                have hfz21_2 := blk_frozen BK157.out 2
                have hfz21_3 := blk_frozen BK157.out 3
                have hfz21_4 := blk_frozen BK157.out 4
                have hfz21_5 := blk_frozen BK157.out 5
                go_wp2_with (first | ((with_reducible refine gate_callee (f := 22) rfl ?_); refine goesL_ (some 9) rfl rfl Try.func22 (by kernel_rfl) rfl #[.int .i64 a0_0] rfl (by (try simp only [List.map_toArray, List.map_cons, List.map_nil]); first | done | rfl | (simp only [List.length_drop, List.length_take]; rfl)) ?_; (with_reducible refine (backreachref06_Kids.calls k1 a0_0 t159 _ A5.out).mono ?_); rintro e w' ⟨rfl, ⟨nd, rfl⟩⟩; refine ⟨_, rfl, ?_⟩; (try (rw [drewN_self wr]; generalize hq_ : World.drewN wr _ = wr; have n0_ : Aside0 (wr.heap[gb157]? = some (.cells #[.int .i64 a0_0, .int .i64 a0_1, .int .u64 a0_2, .int .i64 x158003_1, .int .i64 x158004_1, .int .i64 x158005_1] 32 (0, 0))) := ⟨by rw [← hq_]; exact (by (with_reducible repeat (first | refine blk_drewN ?_ _ | refine blk_drew ?_ | refine blk_alloc ?_ _)); exact BK157.out)⟩; have n1_ : Aside0 (wr.heap[gb158]? = some (.cells #[.int .i64 0, .int .i64 0, .int .u64 0, .int .i64 0, .int .i64 0, .int .i64 0] 32 (0, 0))) := ⟨by rw [← hq_]; exact (by (with_reducible repeat (first | refine blk_drewN ?_ _ | refine blk_drew ?_ | refine blk_alloc ?_ _)); exact BK158.out)⟩; have n2_ : Aside0 (Below w.heap.size w wr) := ⟨by rw [← hq_]; exact (by repeat (first | (with_reducible first | exact HB.out | apply below_alloc | apply pw_below_drewN | apply below_drew1 | refine below_set ?_ GE157.out | refine below_set ?_ GE158.out) | exact HB.out))⟩; clear BK157 BK158 HB hq_; have BK157 := n0_; have BK158 := n1_; have HB := n2_; clear n0_ n1_ n2_)); have hcz22_0 : wr.cell? ⟨gb157, 0, none⟩ = some (.int .i64 a0_0) := (blk_cell BK157.out 0).trans rfl; have hcz22_1 : wr.cell? ⟨gb157, 1, none⟩ = some (.int .i64 a0_1) := (blk_cell BK157.out 1).trans rfl; have hcz22_2 : wr.cell? ⟨gb157, 2, none⟩ = some (.int .u64 a0_2) := (blk_cell BK157.out 2).trans rfl; have hcz22_3 : wr.cell? ⟨gb157, 3, none⟩ = some (.int .i64 x158003_1) := (blk_cell BK157.out 3).trans rfl; have hcz22_4 : wr.cell? ⟨gb157, 4, none⟩ = some (.int .i64 x158004_1) := (blk_cell BK157.out 4).trans rfl; have hcz22_5 : wr.cell? ⟨gb157, 5, none⟩ = some (.int .i64 x158005_1) := (blk_cell BK157.out 5).trans rfl; have hfz22_0 := blk_frozen BK157.out 0; have hfz22_1 := blk_frozen BK157.out 1; have hfz22_2 := blk_frozen BK157.out 2; have hfz22_3 := blk_frozen BK157.out 3; have hfz22_4 := blk_frozen BK157.out 4; have hfz22_5 := blk_frozen BK157.out 5; have p161 : 0 ≤ (x158004_1 : Int) := of_decide_eq_true (by first | (with_reducible assumption) | assumption); have q161 : x158004_1 < (l1.length : Int) := of_decide_eq_true (by first | (with_reducible assumption) | assumption); obtain ⟨ad161, e161, hx161_0⟩ := Kd.at_int HR1.out x158004_1 p161 q161; cases e161; replace hx161_0 := (HB.out.cell (World.block_lt_of_cell? w _ hx161_0)).trans hx161_0; replace p161 := eq_true p161; replace q161 := eq_true q161))
                go_roundg k1
                case measure => have := HK1.out; omega
                case rel => exact ⟨(wrap64 (x5_1 + 1)), (x158003_1), (rd l1 x158004_1), (x158005_1), (by first | rfl | (simp; done) | (simp [*]; done)), H', ⟨by have := HK1.out; omega⟩, ⟨by (with_reducible repeat (first | refine blk_drewN ?_ _ | refine blk_drew ?_ | refine blk_alloc ?_ _)); refine blk_put (cs := #[.int .i64 a0_0, .int .i64 a0_1, .int .u64 a0_2, .int .i64 x158003_1, .int .i64 x158004_1, .int .i64 x158005_1]) ?_ 4 _ rfl; (with_reducible repeat (first | refine blk_drewN ?_ _ | refine blk_drew ?_ | refine blk_alloc ?_ _)); exact BK157.out⟩, ⟨by (with_reducible repeat (first | refine blk_drewN ?_ _ | refine blk_drew ?_ | refine blk_alloc ?_ _)); refine blk_far ?_ NB158_157.out _; (with_reducible repeat (first | refine blk_drewN ?_ _ | refine blk_drew ?_ | refine blk_alloc ?_ _)); exact BK158.out⟩, ⟨by repeat (first | (with_reducible first | exact HB.out | apply below_alloc | apply pw_below_drewN | apply below_drew1 | refine below_set ?_ GE157.out | refine below_set ?_ GE158.out) | exact HB.out)⟩⟩
              · rw [if_neg c18] at H
                exact absurd H (by simp)
            · rw [if_neg c17] at H
              exact absurd H (by simp)
          · rw [if_neg c15] at H
            have c15b0 : (x5_1 == 1) = false := beq_eq_false_iff_ne.mpr c15
            have c15b1 : (x5_1 != 1) = true := bne_iff_ne.mpr c15
            by_cases c23 : x5_1 = 2
            · rw [if_pos c23] at H
              have c23b0 : (x5_1 == 2) = true := beq_iff_eq.mpr c23
              have c23b1 : (x5_1 != 2) = false := bne_eq_false_iff_eq.mpr c23
              clear c23
              have hai24_ : (x5_1 : Int) = 2 := beq_iff_eq.mp (by first | (with_reducible assumption) | assumption)
              have p24 : (0 ≤ (x5_1 : Int)) = True := eq_true (by omega)
              have q24 : ((x5_1 : Int) < 3) = True := eq_true (by omega)
              have qi24 : True → (x5_1 : Int).toNat = 2 := fun _ => by omega
              clear hai24_
              by_cases c25 : 0 ≤ x158005_1
              · rw [if_pos c25] at H
                have c25b0 : decide (0 ≤ x158005_1) = true := decide_eq_true c25
                clear c25
                by_cases c26 : x158005_1 < (l1.length : Int)
                · rw [if_pos c26] at H
                  have c26b0 : decide (x158005_1 < (l1.length : Int)) = true := decide_eq_true c26
                  clear c26
                  have hai27_ : (x5_1 : Int) = 2 := beq_iff_eq.mp (by first | (with_reducible assumption) | assumption)
                  have p27 : (0 ≤ (x5_1 : Int)) = True := eq_true (by omega)
                  have q27 : ((x5_1 : Int) < 3) = True := eq_true (by omega)
                  have qi27 : True → (x5_1 : Int).toNat = 2 := fun _ => by omega
                  clear hai27_
                  have H' := Aside0.mk H
                  clear H
                  have hnb28 := NB157_158.out
                  have hnc28 := NB158_157.out
                  have hcz29_0 : wr.cell? ⟨gb157, 0, none⟩ = some (.int .i64 a0_0) := (blk_cell BK157.out 0).trans rfl
                  have hcz29_1 : wr.cell? ⟨gb157, 1, none⟩ = some (.int .i64 a0_1) := (blk_cell BK157.out 1).trans rfl
                  have hcz29_2 : wr.cell? ⟨gb157, 2, none⟩ = some (.int .u64 a0_2) := (blk_cell BK157.out 2).trans rfl
                  have hcz29_3 : wr.cell? ⟨gb157, 3, none⟩ = some (.int .i64 x158003_1) := (blk_cell BK157.out 3).trans rfl
                  have hcz29_4 : wr.cell? ⟨gb157, 4, none⟩ = some (.int .i64 x158004_1) := (blk_cell BK157.out 4).trans rfl
                  have hcz29_5 : wr.cell? ⟨gb157, 5, none⟩ = some (.int .i64 x158005_1) := (blk_cell BK157.out 5).trans rfl
                  have hfz29_0 := blk_frozen BK157.out 0
                  have hfz29_1 := blk_frozen BK157.out 1
                  have hfz29_2 := blk_frozen BK157.out 2
                  have hfz29_3 := blk_frozen BK157.out 3
                  have hfz29_4 := blk_frozen BK157.out 4
                  have hfz29_5 := blk_frozen BK157.out 5
                  go_wp2_with (first | ((with_reducible refine gate_callee (f := 22) rfl ?_); refine goesL_ (some 9) rfl rfl Try.func22 (by kernel_rfl) rfl #[.int .i64 a0_0] rfl (by (try simp only [List.map_toArray, List.map_cons, List.map_nil]); first | done | rfl | (simp only [List.length_drop, List.length_take]; rfl)) ?_; (with_reducible refine (backreachref06_Kids.calls k1 a0_0 t159 _ A5.out).mono ?_); rintro e w' ⟨rfl, ⟨nd, rfl⟩⟩; refine ⟨_, rfl, ?_⟩; (try (rw [drewN_self wr]; generalize hq_ : World.drewN wr _ = wr; have n0_ : Aside0 (wr.heap[gb157]? = some (.cells #[.int .i64 a0_0, .int .i64 a0_1, .int .u64 a0_2, .int .i64 x158003_1, .int .i64 x158004_1, .int .i64 x158005_1] 32 (0, 0))) := ⟨by rw [← hq_]; exact (by (with_reducible repeat (first | refine blk_drewN ?_ _ | refine blk_drew ?_ | refine blk_alloc ?_ _)); exact BK157.out)⟩; have n1_ : Aside0 (wr.heap[gb158]? = some (.cells #[.int .i64 0, .int .i64 0, .int .u64 0, .int .i64 0, .int .i64 0, .int .i64 0] 32 (0, 0))) := ⟨by rw [← hq_]; exact (by (with_reducible repeat (first | refine blk_drewN ?_ _ | refine blk_drew ?_ | refine blk_alloc ?_ _)); exact BK158.out)⟩; have n2_ : Aside0 (Below w.heap.size w wr) := ⟨by rw [← hq_]; exact (by repeat (first | (with_reducible first | exact HB.out | apply below_alloc | apply pw_below_drewN | apply below_drew1 | refine below_set ?_ GE157.out | refine below_set ?_ GE158.out) | exact HB.out))⟩; clear BK157 BK158 HB hq_; have BK157 := n0_; have BK158 := n1_; have HB := n2_; clear n0_ n1_ n2_)); have hcz30_0 : wr.cell? ⟨gb157, 0, none⟩ = some (.int .i64 a0_0) := (blk_cell BK157.out 0).trans rfl; have hcz30_1 : wr.cell? ⟨gb157, 1, none⟩ = some (.int .i64 a0_1) := (blk_cell BK157.out 1).trans rfl; have hcz30_2 : wr.cell? ⟨gb157, 2, none⟩ = some (.int .u64 a0_2) := (blk_cell BK157.out 2).trans rfl; have hcz30_3 : wr.cell? ⟨gb157, 3, none⟩ = some (.int .i64 x158003_1) := (blk_cell BK157.out 3).trans rfl; have hcz30_4 : wr.cell? ⟨gb157, 4, none⟩ = some (.int .i64 x158004_1) := (blk_cell BK157.out 4).trans rfl; have hcz30_5 : wr.cell? ⟨gb157, 5, none⟩ = some (.int .i64 x158005_1) := (blk_cell BK157.out 5).trans rfl; have hfz30_0 := blk_frozen BK157.out 0; have hfz30_1 := blk_frozen BK157.out 1; have hfz30_2 := blk_frozen BK157.out 2; have hfz30_3 := blk_frozen BK157.out 3; have hfz30_4 := blk_frozen BK157.out 4; have hfz30_5 := blk_frozen BK157.out 5; have p162 : 0 ≤ (x158005_1 : Int) := of_decide_eq_true (by first | (with_reducible assumption) | assumption); have q162 : x158005_1 < (l1.length : Int) := of_decide_eq_true (by first | (with_reducible assumption) | assumption); obtain ⟨ad162, e162, hx162_0⟩ := Kd.at_int HR1.out x158005_1 p162 q162; cases e162; replace hx162_0 := (HB.out.cell (World.block_lt_of_cell? w _ hx162_0)).trans hx162_0; replace p162 := eq_true p162; replace q162 := eq_true q162))
                  go_roundg k1
                  case measure => have := HK1.out; omega
                  case rel => exact ⟨(wrap64 (x5_1 + 1)), (x158003_1), (x158004_1), (rd l1 x158005_1), (by first | rfl | (simp; done) | (simp [*]; done)), H', ⟨by have := HK1.out; omega⟩, ⟨by (with_reducible repeat (first | refine blk_drewN ?_ _ | refine blk_drew ?_ | refine blk_alloc ?_ _)); refine blk_put (cs := #[.int .i64 a0_0, .int .i64 a0_1, .int .u64 a0_2, .int .i64 x158003_1, .int .i64 x158004_1, .int .i64 x158005_1]) ?_ 5 _ rfl; (with_reducible repeat (first | refine blk_drewN ?_ _ | refine blk_drew ?_ | refine blk_alloc ?_ _)); exact BK157.out⟩, ⟨by (with_reducible repeat (first | refine blk_drewN ?_ _ | refine blk_drew ?_ | refine blk_alloc ?_ _)); refine blk_far ?_ NB158_157.out _; (with_reducible repeat (first | refine blk_drewN ?_ _ | refine blk_drew ?_ | refine blk_alloc ?_ _)); exact BK158.out⟩, ⟨by repeat (first | (with_reducible first | exact HB.out | apply below_alloc | apply pw_below_drewN | apply below_drew1 | refine below_set ?_ GE157.out | refine below_set ?_ GE158.out) | exact HB.out)⟩⟩
                · rw [if_neg c26] at H
                  exact absurd H (by simp)
              · rw [if_neg c25] at H
                exact absurd H (by simp)
            · rw [if_neg c23] at H
              exact absurd H (by simp)
      · rw [if_neg c6] at H
        have c6b0 : decide (x5_1 < t159) = false := decide_eq_false c6
        clear c6
        simp only [Option.some.injEq, Prod.mk.injEq] at H
        obtain ⟨rfl, rfl, rfl, rfl, rfl, rfl⟩ := H
        have hnb31 := NB157_158.out
        have hnc31 := NB158_157.out
        have hcz32_0 : wr.cell? ⟨gb157, 0, none⟩ = some (.int .i64 a0_0) := (blk_cell BK157.out 0).trans rfl
        have hcz32_1 : wr.cell? ⟨gb157, 1, none⟩ = some (.int .i64 a0_1) := (blk_cell BK157.out 1).trans rfl
        have hcz32_2 : wr.cell? ⟨gb157, 2, none⟩ = some (.int .u64 a0_2) := (blk_cell BK157.out 2).trans rfl
        have hcz32_3 : wr.cell? ⟨gb157, 3, none⟩ = some (.int .i64 x158003_1) := (blk_cell BK157.out 3).trans rfl
        have hcz32_4 : wr.cell? ⟨gb157, 4, none⟩ = some (.int .i64 x158004_1) := (blk_cell BK157.out 4).trans rfl
        have hcz32_5 : wr.cell? ⟨gb157, 5, none⟩ = some (.int .i64 x158005_1) := (blk_cell BK157.out 5).trans rfl
        have hfz32_0 := blk_frozen BK157.out 0
        have hfz32_1 := blk_frozen BK157.out 1
        have hfz32_2 := blk_frozen BK157.out 2
        have hfz32_3 := blk_frozen BK157.out 3
        have hfz32_4 := blk_frozen BK157.out 4
        have hfz32_5 := blk_frozen BK157.out 5
        go_wp2_with (first | ((with_reducible refine gate_callee (f := 22) rfl ?_); refine goesL_ (some 9) rfl rfl Try.func22 (by kernel_rfl) rfl #[.int .i64 a0_0] rfl (by (try simp only [List.map_toArray, List.map_cons, List.map_nil]); first | done | rfl | (simp only [List.length_drop, List.length_take]; rfl)) ?_; (with_reducible refine (backreachref06_Kids.calls k1 a0_0 t159 _ A5.out).mono ?_); rintro e w' ⟨rfl, ⟨nd, rfl⟩⟩; refine ⟨_, rfl, ?_⟩; (try (rw [drewN_self wr]; generalize hq_ : World.drewN wr _ = wr; have n0_ : Aside0 (wr.heap[gb157]? = some (.cells #[.int .i64 a0_0, .int .i64 a0_1, .int .u64 a0_2, .int .i64 x158003_1, .int .i64 x158004_1, .int .i64 x158005_1] 32 (0, 0))) := ⟨by rw [← hq_]; exact (by (with_reducible repeat (first | refine blk_drewN ?_ _ | refine blk_drew ?_ | refine blk_alloc ?_ _)); exact BK157.out)⟩; have n1_ : Aside0 (wr.heap[gb158]? = some (.cells #[.int .i64 0, .int .i64 0, .int .u64 0, .int .i64 0, .int .i64 0, .int .i64 0] 32 (0, 0))) := ⟨by rw [← hq_]; exact (by (with_reducible repeat (first | refine blk_drewN ?_ _ | refine blk_drew ?_ | refine blk_alloc ?_ _)); exact BK158.out)⟩; have n2_ : Aside0 (Below w.heap.size w wr) := ⟨by rw [← hq_]; exact (by repeat (first | (with_reducible first | exact HB.out | apply below_alloc | apply pw_below_drewN | apply below_drew1 | refine below_set ?_ GE157.out | refine below_set ?_ GE158.out) | exact HB.out))⟩; clear BK157 BK158 HB hq_; have BK157 := n0_; have BK158 := n1_; have HB := n2_; clear n0_ n1_ n2_)); have hcz33_0 : wr.cell? ⟨gb157, 0, none⟩ = some (.int .i64 a0_0) := (blk_cell BK157.out 0).trans rfl; have hcz33_1 : wr.cell? ⟨gb157, 1, none⟩ = some (.int .i64 a0_1) := (blk_cell BK157.out 1).trans rfl; have hcz33_2 : wr.cell? ⟨gb157, 2, none⟩ = some (.int .u64 a0_2) := (blk_cell BK157.out 2).trans rfl; have hcz33_3 : wr.cell? ⟨gb157, 3, none⟩ = some (.int .i64 x158003_1) := (blk_cell BK157.out 3).trans rfl; have hcz33_4 : wr.cell? ⟨gb157, 4, none⟩ = some (.int .i64 x158004_1) := (blk_cell BK157.out 4).trans rfl; have hcz33_5 : wr.cell? ⟨gb157, 5, none⟩ = some (.int .i64 x158005_1) := (blk_cell BK157.out 5).trans rfl; have hfz33_0 := blk_frozen BK157.out 0; have hfz33_1 := blk_frozen BK157.out 1; have hfz33_2 := blk_frozen BK157.out 2; have hfz33_3 := blk_frozen BK157.out 3; have hfz33_4 := blk_frozen BK157.out 4; have hfz33_5 := blk_frozen BK157.out 5; have hcz34_0 : wr.cell? ⟨gb158, 0, none⟩ = some (.int .i64 0) := (blk_cell BK158.out 0).trans rfl; have hcz34_1 : wr.cell? ⟨gb158, 1, none⟩ = some (.int .i64 0) := (blk_cell BK158.out 1).trans rfl; have hcz34_2 : wr.cell? ⟨gb158, 2, none⟩ = some (.int .u64 0) := (blk_cell BK158.out 2).trans rfl; have hcz34_3 : wr.cell? ⟨gb158, 3, none⟩ = some (.int .i64 0) := (blk_cell BK158.out 3).trans rfl; have hcz34_4 : wr.cell? ⟨gb158, 4, none⟩ = some (.int .i64 0) := (blk_cell BK158.out 4).trans rfl; have hcz34_5 : wr.cell? ⟨gb158, 5, none⟩ = some (.int .i64 0) := (blk_cell BK158.out 5).trans rfl; have hfz34_0 := blk_frozen BK158.out 0; have hfz34_1 := blk_frozen BK158.out 1; have hfz34_2 := blk_frozen BK158.out 2; have hfz34_3 := blk_frozen BK158.out 3; have hfz34_4 := blk_frozen BK158.out 4; have hfz34_5 := blk_frozen BK158.out 5))
        refine bodyPost_ret (results_cell_row rfl _ _ gb158 32 #[.int .i64 a0_0, .int .i64 a0_1, .int .u64 a0_2, .int .i64 x158003_1, .int .i64 x158004_1, .int .i64 x158005_1] (0, 0) _ rfl (by (with_reducible repeat (first | refine blk_drewN ?_ _ | refine blk_drew ?_ | refine blk_alloc ?_ _)); refine blk_put (cs := #[.int .i64 a0_0, .int .i64 a0_1, .int .u64 a0_2, .int .i64 x158003_1, .int .i64 x158004_1, .int .i64 0]) ?_ 5 _ rfl; (with_reducible repeat (first | refine blk_drewN ?_ _ | refine blk_drew ?_ | refine blk_alloc ?_ _)); refine blk_put (cs := #[.int .i64 a0_0, .int .i64 a0_1, .int .u64 a0_2, .int .i64 x158003_1, .int .i64 0, .int .i64 0]) ?_ 4 _ rfl; (with_reducible repeat (first | refine blk_drewN ?_ _ | refine blk_drew ?_ | refine blk_alloc ?_ _)); refine blk_put (cs := #[.int .i64 a0_0, .int .i64 a0_1, .int .u64 a0_2, .int .i64 0, .int .i64 0, .int .i64 0]) ?_ 3 _ rfl; (with_reducible repeat (first | refine blk_drewN ?_ _ | refine blk_drew ?_ | refine blk_alloc ?_ _)); refine blk_put (cs := #[.int .i64 a0_0, .int .i64 a0_1, .int .u64 0, .int .i64 0, .int .i64 0, .int .i64 0]) ?_ 2 _ rfl; (with_reducible repeat (first | refine blk_drewN ?_ _ | refine blk_drew ?_ | refine blk_alloc ?_ _)); refine blk_put (cs := #[.int .i64 a0_0, .int .i64 0, .int .u64 0, .int .i64 0, .int .i64 0, .int .i64 0]) ?_ 1 _ rfl; (with_reducible repeat (first | refine blk_drewN ?_ _ | refine blk_drew ?_ | refine blk_alloc ?_ _)); refine blk_put (cs := #[.int .i64 0, .int .i64 0, .int .u64 0, .int .i64 0, .int .i64 0, .int .i64 0]) ?_ 0 _ rfl; (with_reducible repeat (first | refine blk_drewN ?_ _ | refine blk_drew ?_ | refine blk_alloc ?_ _)); exact BK158.out) Try.underlying32 rfl (by kernel_rfl)) rfl ?_
        exact ⟨by first | rfl | (simp [errW_none, errW_some] <;> rfl) | (simp [*, errW_none, errW_some] <;> rfl), by repeat (first | (with_reducible first | exact HB.out | apply below_alloc | apply pw_below_drewN | apply below_drew1 | refine below_set ?_ GE157.out | refine below_set ?_ GE158.out) | exact HB.out)⟩

end Go.Proofs.Ytkindfbbklkjdaa.P
