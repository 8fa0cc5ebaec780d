/- What Go functions compute, and their walks: written by a program of this session (a turned copy of the kit's print) out of the translation. -/
import Derived.Test.YtkindfbbklkjdaaPx0
import Derived.Test.YtkindfbbklkjdaaPx3
namespace Go.Proofs.Ytkindfbbklkjdaa.P
open Go.RowKit Go.Proofs.YtkindfbbklkjdaaW.PrintWords Go.Proofs.YtkindfbbklkjdaaW.PrintLast Go.Proofs.YtkindfbbklkjdaaW.PrintMore
attribute [local go_sem] max2_int min2_int max_two min_two max_three min_three max_four min_four   -- for this text's walks alone
set_option linter.unusedVariables false
set_option linter.unusedSimpArgs false

/-! ### term_kids: function 33 -/
mutual
def term_kids.l0 : Nat → List (S32) → Int → Int → Int → Int → Int → Int → Int → Int → Int → Int → Int → Option (Int × Int × Int × Bool)
  | 0, _, _, _, _, _, _, _, _, _, _, _, _ => none
  | k + 1, x1, x7, x12, x102000, x102001, x102002, x102003, x102004, x102005, x104000, x104001, x104002 => if x12 < 3 then (if x12 ≥ x7 then (if x12 = 0 then (if x102003 = 0 then (term_kids.l0 k x1 x7 (wrap64 (x12 + 1)) x102000 x102001 x102002 x102003 x102004 x102005 x104000 x104001 x104002) else (some (x104000, x104001, x104002, false))) else (if x12 = 1 then (if x102004 = 0 then (term_kids.l0 k x1 x7 (wrap64 (x12 + 1)) x102000 x102001 x102002 x102003 x102004 x102005 x104000 x104001 x104002) else (some (x104000, x104001, x104002, false))) else (if x12 = 2 then (if x102005 = 0 then (term_kids.l0 k x1 x7 (wrap64 (x12 + 1)) x102000 x102001 x102002 x102003 x102004 x102005 x104000 x104001 x104002) else (some (x104000, x104001, x104002, false))) else (none)))) else (if x12 = 0 then (if x102003 < 0 then (term_kids.j1 k x1 x7 x12 x12 true x102000 x102001 x102002 x102003 x102004 x102005 x104000 x104001 x104002) else (term_kids.j1 k x1 x7 x12 x12 (decide (x102003 ≥ (x1.length : Int))) x102000 x102001 x102002 x102003 x102004 x102005 x104000 x104001 x104002)) else (if x12 = 1 then (if x102004 < 0 then (term_kids.j1 k x1 x7 x12 x12 true x102000 x102001 x102002 x102003 x102004 x102005 x104000 x104001 x104002) else (term_kids.j1 k x1 x7 x12 x12 (decide (x102004 ≥ (x1.length : Int))) x102000 x102001 x102002 x102003 x102004 x102005 x104000 x104001 x104002)) else (if x12 = 2 then (if x102005 < 0 then (term_kids.j1 k x1 x7 x12 x12 true x102000 x102001 x102002 x102003 x102004 x102005 x104000 x104001 x104002) else (term_kids.j1 k x1 x7 x12 x12 (decide (x102005 ≥ (x1.length : Int))) x102000 x102001 x102002 x102003 x102004 x102005 x104000 x104001 x104002)) else (none))))) else (some (x104000, x104001, x104002, true))
def term_kids.j1 : Nat → List (S32) → Int → Int → Int → Bool → Int → Int → Int → Int → Int → Int → Int → Int → Int → Option (Int × Int × Int × Bool)
  | 0, _, _, _, _, _, _, _, _, _, _, _, _, _, _ => none
  | k + 1, x1, x7, x8, x12, x35, x102000, x102001, x102002, x102003, x102004, x102005, x104000, x104001, x104002 => if x35 = true then (some (x104000, x104001, x104002, false)) else (if x8 = 0 then (if 0 ≤ x102003 then (if x102003 < (x1.length : Int) then (term_kids.l0 k x1 x7 (wrap64 (x12 + 1)) x102000 x102001 x102002 x102003 x102004 x102005 ((rd_T32 x1 x102003).f1) x104001 x104002) else (none)) else (none)) else (if x8 = 1 then (if 0 ≤ x102004 then (if x102004 < (x1.length : Int) then (term_kids.l0 k x1 x7 (wrap64 (x12 + 1)) x102000 x102001 x102002 x102003 x102004 x102005 x104000 ((rd_T32 x1 x102004).f1) x104002) else (none)) else (none)) else (if x8 = 2 then (if 0 ≤ x102005 then (if x102005 < (x1.length : Int) then (term_kids.l0 k x1 x7 (wrap64 (x12 + 1)) x102000 x102001 x102002 x102003 x102004 x102005 x104000 x104001 ((rd_T32 x1 x102005).f1)) else (none)) else (none)) else (none))))
end
def term_kids.f (k : Nat) (a0_0 : Int) (a0_1 : Int) (a0_2 : Int) (a0_3 : Int) (a0_4 : Int) (a0_5 : Int) (l1 : List (S32)) : Option (Int × Int × Int × Bool) := (term_Kids.f k a0_0).bind fun t104 => (term_kids.l0 k l1 t104 0 a0_0 a0_1 a0_2 a0_3 a0_4 a0_5 0 0 0)
theorem term_kids.mono_l : ∀ k, (∀ y0 y1 y2 y3 y4 y5 y6 y7 y8 y9 y10 y11, LeO (term_kids.l0 k y0 y1 y2 y3 y4 y5 y6 y7 y8 y9 y10 y11) (term_kids.l0 (k + 1) y0 y1 y2 y3 y4 y5 y6 y7 y8 y9 y10 y11)) ∧ (∀ y0 y1 y2 y3 y4 y5 y6 y7 y8 y9 y10 y11 y12 y13, LeO (term_kids.j1 k y0 y1 y2 y3 y4 y5 y6 y7 y8 y9 y10 y11 y12 y13) (term_kids.j1 (k + 1) y0 y1 y2 y3 y4 y5 y6 y7 y8 y9 y10 y11 y12 y13))
  | 0 => ⟨fun _ _ _ _ _ _ _ _ _ _ _ _ r h => by simp [term_kids.l0] at h, fun _ _ _ _ _ _ _ _ _ _ _ _ _ _ r h => by simp [term_kids.j1] at h⟩
  | k + 1 => by
    obtain ⟨ih0, ih1⟩ := term_kids.mono_l k
    refine ⟨?_, ?_⟩
    · intro y0 y1 y2 y3 y4 y5 y6 y7 y8 y9 y10 y11
      unfold term_kids.l0
      repeat' first
      | (with_reducible exact ih0 _ _ _ _ _ _ _ _ _ _ _ _)
      | (with_reducible exact ih1 _ _ _ _ _ _ _ _ _ _ _ _ _ _)
      | (with_reducible exact term_Kids.mono _ _)
      | (with_reducible exact LeO.refl _)
      | (with_reducible exact LeO.none _)
      | (with_reducible refine LeO.ite ?_ ?_)
      | (with_reducible refine LeO.bind ?_ (fun _ => ?_))
      | exact ih0 _ _ _ _ _ _ _ _ _ _ _ _
      | exact ih1 _ _ _ _ _ _ _ _ _ _ _ _ _ _
      | exact term_Kids.mono _ _
      | exact LeO.none _
      | refine LeO.ite ?_ ?_
      | refine LeO.bind ?_ (fun _ => ?_)
    · intro y0 y1 y2 y3 y4 y5 y6 y7 y8 y9 y10 y11 y12 y13
      unfold term_kids.j1
      repeat' first
      | (with_reducible exact ih0 _ _ _ _ _ _ _ _ _ _ _ _)
      | (with_reducible exact ih1 _ _ _ _ _ _ _ _ _ _ _ _ _ _)
      | (with_reducible exact term_Kids.mono _ _)
      | (with_reducible exact LeO.refl _)
      | (with_reducible exact LeO.none _)
      | (with_reducible refine LeO.ite ?_ ?_)
      | (with_reducible refine LeO.bind ?_ (fun _ => ?_))
      | exact ih0 _ _ _ _ _ _ _ _ _ _ _ _
      | exact ih1 _ _ _ _ _ _ _ _ _ _ _ _ _ _
      | exact term_Kids.mono _ _
      | exact LeO.none _
      | refine LeO.ite ?_ ?_
      | refine LeO.bind ?_ (fun _ => ?_)
theorem term_kids.mono : ∀ a0 a1 a2 a3 a4 a5 a6 k, LeO (term_kids.f k a0 a1 a2 a3 a4 a5 a6) (term_kids.f (k + 1) a0 a1 a2 a3 a4 a5 a6) := by
  intro a0 a1 a2 a3 a4 a5 a6 k
  obtain ⟨ih0, ih1⟩ := term_kids.mono_l k
  unfold term_kids.f
  repeat' first
      | (with_reducible exact ih0 _ _ _ _ _ _ _ _ _ _ _ _)
      | (with_reducible exact ih1 _ _ _ _ _ _ _ _ _ _ _ _ _ _)
      | (with_reducible exact term_Kids.mono _ _)
      | (with_reducible exact LeO.refl _)
      | (with_reducible exact LeO.none _)
      | (with_reducible refine LeO.ite ?_ ?_)
      | (with_reducible refine LeO.bind ?_ (fun _ => ?_))
      | exact ih0 _ _ _ _ _ _ _ _ _ _ _ _
      | exact ih1 _ _ _ _ _ _ _ _ _ _ _ _ _ _
      | exact term_Kids.mono _ _
      | exact LeO.none _
      | refine LeO.ite ?_ ?_
      | refine LeO.bind ?_ (fun _ => ?_)
set_option maxHeartbeats 8000000 in
set_option maxRecDepth 100000 in
theorem term_kids.calls (k : Nat) (a0_0 : Int) (a0_1 : Int) (a0_2 : Int) (a0_3 : Int) (a0_4 : Int) (a0_5 : Int) (A1 : Option Addr) (c1 : Nat) (l1 : List (S32)) (r1 : Int) (r2 : Int) (r3 : Int) (r4 : Bool) (w : World) (hr1 : Kd.C k32 w A1 l1.length l1) (hc1 : l1.length ≤ c1) (h : term_kids.f k a0_0 a0_1 a0_2 a0_3 a0_4 a0_5 l1 = some (r1, r2, r3, r4)) :
    Calls Try.prog 33 #[.agg #[.int .i64 a0_0, .int .i64 a0_1, .int .u64 a0_2, .int .i64 a0_3, .int .i64 a0_4, .int .i64 a0_5], .slice A1 l1.length c1] w fun e w' => e = .returned (.tuple #[.agg #[.int .i64 r1, .int .i64 r2, .int .i64 r3], .bool r4]) ∧ Below w.heap.size w w' := by
  have hu32 := Try.underlying32
  have hu30 := Try.underlying30
  have HR1 := Aside0.mk hr1
  have HC1 := Aside0.mk hc1
  clear hr1 hc1
  have HB := Aside0.mk (Below.refl w.heap.size w)
  have H : ((term_Kids.f k a0_0).bind fun t104 => (term_kids.l0 k l1 t104 0 a0_0 a0_1 a0_2 a0_3 a0_4 a0_5 0 0 0)) = some (r1, r2, r3, r4) := h
  clear h
  replace H := Option.bind_eq_some_iff.mp H
  obtain ⟨t104, A30, H⟩ := H
  replace H : (term_kids.l0 k l1 t104 0 a0_0 a0_1 a0_2 a0_3 a0_4 a0_5 0 0 0) = some (r1, r2, r3, r4) := H
  have A3 := Aside0.mk A30
  clear A30
  have H' := Aside0.mk H
  clear H
  go_enter Try.func33, Try.ntmps33
  go_wp2_with (first | ((with_reducible refine gate_dst (N := 2) rfl ?_); (try (refine gate_guard (by rfl) ?_; dsimp only)); refine box_event ?hg (N := 2) ?hd (cs := #[.int .i64 a0_0, .int .i64 a0_1, .int .u64 a0_2, .int .i64 a0_3, .int .i64 a0_4, .int .i64 a0_5]) (t := 32) ?hr ?_; (case hd => rfl); (case hg => rfl); (case hr => first | (go_simp; done) | (go_simp; rfl)); intro gb101 hg w4 hbox hb; have n0_ := Aside0.mk (below_step (by repeat (first | (with_reducible first | exact HB.out | apply below_alloc | apply pw_below_drewN | apply below_drew1) | exact HB.out)) hb); have n1_ := Aside0.mk (hbox); have n2_ := Aside0.mk ((by rw [hg]; exact (below_size (by repeat (first | (with_reducible first | exact HB.out | apply below_alloc | apply pw_below_drewN | apply below_drew1) | exact HB.out))) : w.heap.size ≤ gb101)); have n3_ := Aside0.mk ((by rw [hg]; exact (below_size (by repeat (first | (with_reducible first | exact HB.out | apply below_alloc | apply pw_below_drewN | apply below_drew1) | exact HB.out))) : w.heap.size ≤ gb101)); clear HB; have HB := n0_; have BK101 := n1_; have GW101 := n2_; have GE101 := n3_; clear n0_ n1_ n2_ n3_; clear hb hbox hg) | ((with_reducible refine gate_dst (N := 4) rfl ?_); (try (refine gate_guard (by rfl) ?_; dsimp only)); refine box_event ?hg (N := 4) ?hd (cs := #[.int .i64 0, .int .i64 0, .int .i64 0]) (t := 30) ?hr ?_; (case hd => rfl); (case hg => rfl); (case hr => first | (go_simp; done) | (go_simp; rfl)); intro gb102 hg w5 hbox hb; have n0_ := Aside0.mk (blk_below (g := gb101) (o := .cells #[.int .i64 a0_0, .int .i64 a0_1, .int .u64 a0_2, .int .i64 a0_3, .int .i64 a0_4, .int .i64 a0_5] 32 (0, 0)) (by (with_reducible repeat (first | refine blk_drewN ?_ _ | refine blk_drew ?_ | refine blk_alloc ?_ _)); exact BK101.out) hb); have n1_ := Aside0.mk (below_step (by repeat (first | (with_reducible first | exact HB.out | apply below_alloc | apply pw_below_drewN | apply below_drew1 | refine below_set ?_ GE101.out) | exact HB.out)) hb); have n2_ := Aside0.mk (hbox); have n3_ := Aside0.mk ((by rw [hg]; exact (below_size (by repeat (first | (with_reducible first | exact HB.out | apply below_alloc | apply pw_below_drewN | apply below_drew1 | refine below_set ?_ GE101.out) | exact HB.out))) : w.heap.size ≤ gb102)); have n4_ := Aside0.mk ((by rw [hg]; exact (below_size (by repeat (first | (with_reducible first | exact HB.out | apply below_alloc | apply pw_below_drewN | apply below_drew1 | refine below_set ?_ GE101.out) | exact HB.out))) : w.heap.size ≤ gb102)); have n5_ := Aside0.mk ((by rw [hg]; exact Nat.ne_of_lt (blk_lt (g := gb101) (o := .cells #[.int .i64 a0_0, .int .i64 a0_1, .int .u64 a0_2, .int .i64 a0_3, .int .i64 a0_4, .int .i64 a0_5] 32 (0, 0)) (by (with_reducible repeat (first | refine blk_drewN ?_ _ | refine blk_drew ?_ | refine blk_alloc ?_ _)); exact BK101.out)) : gb101 ≠ gb102)); have n6_ := Aside0.mk ((by rw [hg]; exact Nat.ne_of_gt (blk_lt (g := gb101) (o := .cells #[.int .i64 a0_0, .int .i64 a0_1, .int .u64 a0_2, .int .i64 a0_3, .int .i64 a0_4, .int .i64 a0_5] 32 (0, 0)) (by (with_reducible repeat (first | refine blk_drewN ?_ _ | refine blk_drew ?_ | refine blk_alloc ?_ _)); exact BK101.out)) : gb102 ≠ gb101)); clear BK101; clear HB; have BK101 := n0_; have HB := n1_; have BK102 := n2_; have GW102 := n3_; have GE102 := n4_; have NB101_102 := n5_; have NB102_101 := n6_; clear n0_ n1_ n2_ n3_ n4_ n5_ n6_; clear hb hbox hg) | ((with_reducible refine gate_dst (N := 6) rfl ?_); (try (refine gate_guard (by rfl) ?_; dsimp only)); refine box_event ?hg (N := 6) ?hd (cs := #[.int .i64 0, .int .i64 0, .int .i64 0]) (t := 30) ?hr ?_; (case hd => rfl); (case hg => rfl); (case hr => first | (go_simp; done) | (go_simp; rfl)); intro gb103 hg w6 hbox hb; have n0_ := Aside0.mk (blk_below (g := gb101) (o := .cells #[.int .i64 a0_0, .int .i64 a0_1, .int .u64 a0_2, .int .i64 a0_3, .int .i64 a0_4, .int .i64 a0_5] 32 (0, 0)) (by (with_reducible repeat (first | refine blk_drewN ?_ _ | refine blk_drew ?_ | refine blk_alloc ?_ _)); exact BK101.out) hb); have n1_ := Aside0.mk (blk_below (g := gb102) (o := .cells #[.int .i64 0, .int .i64 0, .int .i64 0] 30 (0, 0)) (by (with_reducible repeat (first | refine blk_drewN ?_ _ | refine blk_drew ?_ | refine blk_alloc ?_ _)); exact BK102.out) hb); have n2_ := Aside0.mk (below_step (by repeat (first | (with_reducible first | exact HB.out | apply below_alloc | apply pw_below_drewN | apply below_drew1 | refine below_set ?_ GE101.out | refine below_set ?_ GE102.out) | exact HB.out)) hb); have n3_ := Aside0.mk (hbox); have n4_ := Aside0.mk ((by rw [hg]; exact (below_size (by repeat (first | (with_reducible first | exact HB.out | apply below_alloc | apply pw_below_drewN | apply below_drew1 | refine below_set ?_ GE101.out | refine below_set ?_ GE102.out) | exact HB.out))) : w.heap.size ≤ gb103)); have n5_ := Aside0.mk ((by rw [hg]; exact (below_size (by repeat (first | (with_reducible first | exact HB.out | apply below_alloc | apply pw_below_drewN | apply below_drew1 | refine below_set ?_ GE101.out | refine below_set ?_ GE102.out) | exact HB.out))) : w.heap.size ≤ gb103)); have n6_ := Aside0.mk ((by rw [hg]; exact Nat.ne_of_lt (blk_lt (g := gb101) (o := .cells #[.int .i64 a0_0, .int .i64 a0_1, .int .u64 a0_2, .int .i64 a0_3, .int .i64 a0_4, .int .i64 a0_5] 32 (0, 0)) (by (with_reducible repeat (first | refine blk_drewN ?_ _ | refine blk_drew ?_ | refine blk_alloc ?_ _)); exact BK101.out)) : gb101 ≠ gb103)); have n7_ := Aside0.mk ((by rw [hg]; exact Nat.ne_of_gt (blk_lt (g := gb101) (o := .cells #[.int .i64 a0_0, .int .i64 a0_1, .int .u64 a0_2, .int .i64 a0_3, .int .i64 a0_4, .int .i64 a0_5] 32 (0, 0)) (by (with_reducible repeat (first | refine blk_drewN ?_ _ | refine blk_drew ?_ | refine blk_alloc ?_ _)); exact BK101.out)) : gb103 ≠ gb101)); have n8_ := Aside0.mk ((by rw [hg]; exact Nat.ne_of_lt (blk_lt (g := gb102) (o := .cells #[.int .i64 0, .int .i64 0, .int .i64 0] 30 (0, 0)) (by (with_reducible repeat (first | refine blk_drewN ?_ _ | refine blk_drew ?_ | refine blk_alloc ?_ _)); exact BK102.out)) : gb102 ≠ gb103)); have n9_ := Aside0.mk ((by rw [hg]; exact Nat.ne_of_gt (blk_lt (g := gb102) (o := .cells #[.int .i64 0, .int .i64 0, .int .i64 0] 30 (0, 0)) (by (with_reducible repeat (first | refine blk_drewN ?_ _ | refine blk_drew ?_ | refine blk_alloc ?_ _)); exact BK102.out)) : gb103 ≠ gb102)); clear BK101; clear BK102; clear HB; have BK101 := n0_; have BK102 := n1_; have HB := n2_; have BK103 := n3_; have GW103 := n4_; have GE103 := n5_; have NB101_103 := n6_; have NB103_101 := n7_; have NB102_103 := n8_; have NB103_102 := n9_; clear n0_ n1_ n2_ n3_ n4_ n5_ n6_ n7_ n8_ n9_; clear hb hbox hg; have hnb7 := NB101_102.out; have hnc7 := NB102_101.out; have hnb8 := NB101_103.out; have hnc8 := NB103_101.out; have hcz9_0 : w6.cell? ⟨gb101, 0, none⟩ = some (.int .i64 a0_0) := (blk_cell BK101.out 0).trans rfl; have hcz9_1 : w6.cell? ⟨gb101, 1, none⟩ = some (.int .i64 a0_1) := (blk_cell BK101.out 1).trans rfl; have hcz9_2 : w6.cell? ⟨gb101, 2, none⟩ = some (.int .u64 a0_2) := (blk_cell BK101.out 2).trans rfl; have hcz9_3 : w6.cell? ⟨gb101, 3, none⟩ = some (.int .i64 a0_3) := (blk_cell BK101.out 3).trans rfl; have hcz9_4 : w6.cell? ⟨gb101, 4, none⟩ = some (.int .i64 a0_4) := (blk_cell BK101.out 4).trans rfl; have hcz9_5 : w6.cell? ⟨gb101, 5, none⟩ = some (.int .i64 a0_5) := (blk_cell BK101.out 5).trans rfl; have hfz9_0 := blk_frozen BK101.out 0; have hfz9_1 := blk_frozen BK101.out 1; have hfz9_2 := blk_frozen BK101.out 2; have hfz9_3 := blk_frozen BK101.out 3; have hfz9_4 := blk_frozen BK101.out 4; have hfz9_5 := blk_frozen BK101.out 5) | ((with_reducible refine gate_callee (f := 21) rfl ?_); refine goesL_ (some 11) rfl rfl Try.func21 (by kernel_rfl) rfl #[.int .i64 a0_0] rfl (by (try simp only [List.map_toArray, List.map_cons, List.map_nil]); first | done | rfl | (simp only [List.length_drop, List.length_take]; rfl)) ?_; (with_reducible refine (term_Kids.calls k a0_0 t104 _ A3.out).mono ?_); rintro e w' ⟨rfl, ⟨nd, rfl⟩⟩; refine ⟨_, rfl, ?_⟩))
  go_loopg [12] k (fun kq v12 w' => ∃ (x12_1 : Int) (x103000_1 : Int) (x103001_1 : Int) (x103002_1 : Int) (x104000_1 : Int) (x104001_1 : Int) (x104002_1 : Int), v12 = .int .i64 x12_1 ∧ Aside0 (term_kids.l0 kq l1 t104 x12_1 a0_0 a0_1 a0_2 a0_3 a0_4 a0_5 x104000_1 x104001_1 x104002_1 = some (r1, r2, r3, r4)) ∧ Aside0 (kq ≤ k) ∧ Aside0 (w'.heap[gb101]? = some (.cells #[.int .i64 a0_0, .int .i64 a0_1, .int .u64 a0_2, .int .i64 a0_3, .int .i64 a0_4, .int .i64 a0_5] 32 (0, 0))) ∧ Aside0 (w'.heap[gb102]? = some (.cells #[.int .i64 x103000_1, .int .i64 x103001_1, .int .i64 x103002_1] 30 (0, 0))) ∧ Aside0 (w'.heap[gb103]? = some (.cells #[.int .i64 x104000_1, .int .i64 x104001_1, .int .i64 x104002_1] 30 (0, 0))) ∧ Aside0 (Below w.heap.size w w'))
  case atStart => exact ⟨(0), (0), (0), (0), (0), (0), (0), (by first | rfl | (simp; done) | (simp [*]; done)), H', ⟨Nat.le_refl _⟩, ⟨by (with_reducible repeat (first | refine blk_drewN ?_ _ | refine blk_drew ?_ | refine blk_alloc ?_ _)); exact BK101.out⟩, ⟨by (with_reducible repeat (first | refine blk_drewN ?_ _ | refine blk_drew ?_ | refine blk_alloc ?_ _)); exact BK102.out⟩, ⟨by (with_reducible repeat (first | refine blk_drewN ?_ _ | refine blk_drew ?_ | refine blk_alloc ?_ _)); exact BK103.out⟩, ⟨by repeat (first | (with_reducible first | exact HB.out | apply below_alloc | apply pw_below_drewN | apply below_drew1 | refine below_set ?_ GE101.out | refine below_set ?_ GE102.out | refine below_set ?_ GE103.out) | exact HB.out)⟩⟩
  case round =>
    clear H'
    try clear c1
    try clear c2
    try clear p2
    try clear c3
    try clear c7
    try clear c8
    try clear hcz9_0
    try clear hcz9_1
    try clear hcz9_2
    try clear hcz9_3
    try clear hcz9_4
    try clear hcz9_5
    try clear hfz9_0
    try clear hfz9_1
    try clear hfz9_2
    try clear hfz9_3
    try clear hfz9_4
    try clear hfz9_5
    obtain ⟨x12_1, x103000_1, x103001_1, x103002_1, x104000_1, x104001_1, x104002_1, rfl, HA, HK1, BK101, BK102, BK103, HB⟩ := hrel
    cases gk with
    | zero => exact absurd HA.out (by simp [term_kids.l0])
    | succ k1 =>
      have H := HA.out
      clear HA
      simp only [term_kids.l0] at H
      by_cases c10 : x12_1 < 3
      · rw [if_pos c10] at H
        have c10b0 : decide (x12_1 < 3) = true := decide_eq_true c10
        clear c10
        by_cases c11 : x12_1 ≥ t104
        · rw [if_pos c11] at H
          have c11b0 : decide (t104 ≤ x12_1) = true := decide_eq_true c11
          clear c11
          by_cases c12 : x12_1 = 0
          · rw [if_pos c12] at H
            have c12b0 : (x12_1 == 0) = true := beq_iff_eq.mpr c12
            have c12b1 : (x12_1 != 0) = false := bne_eq_false_iff_eq.mpr c12
            clear c12
            have hai13_ : (x12_1 : Int) = 0 := beq_iff_eq.mp (by first | (with_reducible assumption) | assumption)
            have p13 : (0 ≤ (x12_1 : Int)) = True := eq_true (by omega)
            have q13 : ((x12_1 : Int) < 3) = True := eq_true (by omega)
            have qi13 : True → (x12_1 : Int).toNat = 0 := fun _ => by omega
            clear hai13_
            by_cases c14 : a0_3 = 0
            · rw [if_pos c14] at H
              have c14b0 : (a0_3 == 0) = true := beq_iff_eq.mpr c14
              have c14b1 : (a0_3 != 0) = false := bne_eq_false_iff_eq.mpr c14
              clear c14
              have H' := Aside0.mk H
              clear H
              have hnb15 := NB101_102.out
              have hnc15 := NB102_101.out
              have hnb16 := NB101_103.out
              have hnc16 := NB103_101.out
              have hcz17_0 : wr.cell? ⟨gb101, 0, none⟩ = some (.int .i64 a0_0) := (blk_cell BK101.out 0).trans rfl
              have hcz17_1 : wr.cell? ⟨gb101, 1, none⟩ = some (.int .i64 a0_1) := (blk_cell BK101.out 1).trans rfl
              have hcz17_2 : wr.cell? ⟨gb101, 2, none⟩ = some (.int .u64 a0_2) := (blk_cell BK101.out 2).trans rfl
              have hcz17_3 : wr.cell? ⟨gb101, 3, none⟩ = some (.int .i64 a0_3) := (blk_cell BK101.out 3).trans rfl
              have hcz17_4 : wr.cell? ⟨gb101, 4, none⟩ = some (.int .i64 a0_4) := (blk_cell BK101.out 4).trans rfl
              have hcz17_5 : wr.cell? ⟨gb101, 5, none⟩ = some (.int .i64 a0_5) := (blk_cell BK101.out 5).trans rfl
              have hfz17_0 := blk_frozen BK101.out 0
              have hfz17_1 := blk_frozen BK101.out 1
              have hfz17_2 := blk_frozen BK101.out 2
              have hfz17_3 := blk_frozen BK101.out 3
              have hfz17_4 := blk_frozen BK101.out 4
              have hfz17_5 := blk_frozen BK101.out 5
              go_wp2
              go_roundg k1
              case measure => have := HK1.out; omega
              case rel => exact ⟨(wrap64 (x12_1 + 1)), (x103000_1), (x103001_1), (x103002_1), (x104000_1), (x104001_1), (x104002_1), (by first | rfl | (simp; done) | (simp [*]; done)), H', ⟨by have := HK1.out; omega⟩, ⟨by (with_reducible repeat (first | refine blk_drewN ?_ _ | refine blk_drew ?_ | refine blk_alloc ?_ _)); exact BK101.out⟩, ⟨by (with_reducible repeat (first | refine blk_drewN ?_ _ | refine blk_drew ?_ | refine blk_alloc ?_ _)); exact BK102.out⟩, ⟨by (with_reducible repeat (first | refine blk_drewN ?_ _ | refine blk_drew ?_ | refine blk_alloc ?_ _)); exact BK103.out⟩, ⟨by repeat (first | (with_reducible first | exact HB.out | apply below_alloc | apply pw_below_drewN | apply below_drew1 | refine below_set ?_ GE101.out | refine below_set ?_ GE102.out | refine below_set ?_ GE103.out) | exact HB.out)⟩⟩
            · rw [if_neg c14] at H
              have c14b0 : (a0_3 == 0) = false := beq_eq_false_iff_ne.mpr c14
              have c14b1 : (a0_3 != 0) = true := bne_iff_ne.mpr c14
              simp only [Option.some.injEq, Prod.mk.injEq] at H
              obtain ⟨rfl, rfl, rfl, rfl⟩ := H
              have hnb18 := NB101_102.out
              have hnc18 := NB102_101.out
              have hnb19 := NB101_103.out
              have hnc19 := NB103_101.out
              have hcz20_0 : wr.cell? ⟨gb101, 0, none⟩ = some (.int .i64 a0_0) := (blk_cell BK101.out 0).trans rfl
              have hcz20_1 : wr.cell? ⟨gb101, 1, none⟩ = some (.int .i64 a0_1) := (blk_cell BK101.out 1).trans rfl
              have hcz20_2 : wr.cell? ⟨gb101, 2, none⟩ = some (.int .u64 a0_2) := (blk_cell BK101.out 2).trans rfl
              have hcz20_3 : wr.cell? ⟨gb101, 3, none⟩ = some (.int .i64 a0_3) := (blk_cell BK101.out 3).trans rfl
              have hcz20_4 : wr.cell? ⟨gb101, 4, none⟩ = some (.int .i64 a0_4) := (blk_cell BK101.out 4).trans rfl
              have hcz20_5 : wr.cell? ⟨gb101, 5, none⟩ = some (.int .i64 a0_5) := (blk_cell BK101.out 5).trans rfl
              have hfz20_0 := blk_frozen BK101.out 0
              have hfz20_1 := blk_frozen BK101.out 1
              have hfz20_2 := blk_frozen BK101.out 2
              have hfz20_3 := blk_frozen BK101.out 3
              have hfz20_4 := blk_frozen BK101.out 4
              have hfz20_5 := blk_frozen BK101.out 5
              have hnb21 := NB103_102.out
              have hnc21 := NB102_103.out
              have hcz22_0 : wr.cell? ⟨gb103, 0, none⟩ = some (.int .i64 x104000_1) := (blk_cell BK103.out 0).trans rfl
              have hcz22_1 : wr.cell? ⟨gb103, 1, none⟩ = some (.int .i64 x104001_1) := (blk_cell BK103.out 1).trans rfl
              have hcz22_2 : wr.cell? ⟨gb103, 2, none⟩ = some (.int .i64 x104002_1) := (blk_cell BK103.out 2).trans rfl
              have hfz22_0 := blk_frozen BK103.out 0
              have hfz22_1 := blk_frozen BK103.out 1
              have hfz22_2 := blk_frozen BK103.out 2
              have hcz23_0 : wr.cell? ⟨gb102, 0, none⟩ = some (.int .i64 x103000_1) := (blk_cell BK102.out 0).trans rfl
              have hcz23_1 : wr.cell? ⟨gb102, 1, none⟩ = some (.int .i64 x103001_1) := (blk_cell BK102.out 1).trans rfl
              have hcz23_2 : wr.cell? ⟨gb102, 2, none⟩ = some (.int .i64 x103002_1) := (blk_cell BK102.out 2).trans rfl
              have hfz23_0 := blk_frozen BK102.out 0
              have hfz23_1 := blk_frozen BK102.out 1
              have hfz23_2 := blk_frozen BK102.out 2
              go_wp2
              refine bodyPost_ret (results_ct rfl _ _ gb102 30 #[.int .i64 x104000_1, .int .i64 x104001_1, .int .i64 x104002_1] (0, 0) _ rfl (by (with_reducible repeat (first | refine blk_drewN ?_ _ | refine blk_drew ?_ | refine blk_alloc ?_ _)); refine blk_put (cs := #[.int .i64 x104000_1, .int .i64 x104001_1, .int .i64 x103002_1]) ?_ 2 _ rfl; (with_reducible repeat (first | refine blk_drewN ?_ _ | refine blk_drew ?_ | refine blk_alloc ?_ _)); refine blk_put (cs := #[.int .i64 x104000_1, .int .i64 x103001_1, .int .i64 x103002_1]) ?_ 1 _ rfl; (with_reducible repeat (first | refine blk_drewN ?_ _ | refine blk_drew ?_ | refine blk_alloc ?_ _)); refine blk_put (cs := #[.int .i64 x103000_1, .int .i64 x103001_1, .int .i64 x103002_1]) ?_ 0 _ rfl; (with_reducible repeat (first | refine blk_drewN ?_ _ | refine blk_drew ?_ | refine blk_alloc ?_ _)); exact BK102.out) Try.underlying30 rfl (by kernel_rfl)) rfl ?_
              exact ⟨by first | rfl | (simp [errW_none, errW_some] <;> rfl) | (simp [*, errW_none, errW_some] <;> rfl), by repeat (first | (with_reducible first | exact HB.out | apply below_alloc | apply pw_below_drewN | apply below_drew1 | refine below_set ?_ GE101.out | refine below_set ?_ GE102.out | refine below_set ?_ GE103.out) | exact HB.out)⟩
          · rw [if_neg c12] at H
            have c12b0 : (x12_1 == 0) = false := beq_eq_false_iff_ne.mpr c12
            have c12b1 : (x12_1 != 0) = true := bne_iff_ne.mpr c12
            by_cases c24 : x12_1 = 1
            · rw [if_pos c24] at H
              have c24b0 : (x12_1 == 1) = true := beq_iff_eq.mpr c24
              have c24b1 : (x12_1 != 1) = false := bne_eq_false_iff_eq.mpr c24
              clear c24
              have hai25_ : (x12_1 : Int) = 1 := beq_iff_eq.mp (by first | (with_reducible assumption) | assumption)
              have p25 : (0 ≤ (x12_1 : Int)) = True := eq_true (by omega)
              have q25 : ((x12_1 : Int) < 3) = True := eq_true (by omega)
              have qi25 : True → (x12_1 : Int).toNat = 1 := fun _ => by omega
              clear hai25_
              by_cases c26 : a0_4 = 0
              · rw [if_pos c26] at H
                have c26b0 : (a0_4 == 0) = true := beq_iff_eq.mpr c26
                have c26b1 : (a0_4 != 0) = false := bne_eq_false_iff_eq.mpr c26
                clear c26
                have H' := Aside0.mk H
                clear H
                have hnb27 := NB101_102.out
                have hnc27 := NB102_101.out
                have hnb28 := NB101_103.out
                have hnc28 := NB103_101.out
                have hcz29_0 : wr.cell? ⟨gb101, 0, none⟩ = some (.int .i64 a0_0) := (blk_cell BK101.out 0).trans rfl
                have hcz29_1 : wr.cell? ⟨gb101, 1, none⟩ = some (.int .i64 a0_1) := (blk_cell BK101.out 1).trans rfl
                have hcz29_2 : wr.cell? ⟨gb101, 2, none⟩ = some (.int .u64 a0_2) := (blk_cell BK101.out 2).trans rfl
                have hcz29_3 : wr.cell? ⟨gb101, 3, none⟩ = some (.int .i64 a0_3) := (blk_cell BK101.out 3).trans rfl
                have hcz29_4 : wr.cell? ⟨gb101, 4, none⟩ = some (.int .i64 a0_4) := (blk_cell BK101.out 4).trans rfl
                have hcz29_5 : wr.cell? ⟨gb101, 5, none⟩ = some (.int .i64 a0_5) := (blk_cell BK101.out 5).trans rfl
                have hfz29_0 := blk_frozen BK101.out 0
                have hfz29_1 := blk_frozen BK101.out 1
                have hfz29_2 := blk_frozen BK101.out 2
                have hfz29_3 := blk_frozen BK101.out 3
                have hfz29_4 := blk_frozen BK101.out 4
                have hfz29_5 := blk_frozen BK101.out 5
                go_wp2
                go_roundg k1
                case measure => have := HK1.out; omega
                case rel => exact ⟨(wrap64 (x12_1 + 1)), (x103000_1), (x103001_1), (x103002_1), (x104000_1), (x104001_1), (x104002_1), (by first | rfl | (simp; done) | (simp [*]; done)), H', ⟨by have := HK1.out; omega⟩, ⟨by (with_reducible repeat (first | refine blk_drewN ?_ _ | refine blk_drew ?_ | refine blk_alloc ?_ _)); exact BK101.out⟩, ⟨by (with_reducible repeat (first | refine blk_drewN ?_ _ | refine blk_drew ?_ | refine blk_alloc ?_ _)); exact BK102.out⟩, ⟨by (with_reducible repeat (first | refine blk_drewN ?_ _ | refine blk_drew ?_ | refine blk_alloc ?_ _)); exact BK103.out⟩, ⟨by repeat (first | (with_reducible first | exact HB.out | apply below_alloc | apply pw_below_drewN | apply below_drew1 | refine below_set ?_ GE101.out | refine below_set ?_ GE102.out | refine below_set ?_ GE103.out) | exact HB.out)⟩⟩
              · rw [if_neg c26] at H
                have c26b0 : (a0_4 == 0) = false := beq_eq_false_iff_ne.mpr c26
                have c26b1 : (a0_4 != 0) = true := bne_iff_ne.mpr c26
                simp only [Option.some.injEq, Prod.mk.injEq] at H
                obtain ⟨rfl, rfl, rfl, rfl⟩ := H
                have hnb30 := NB101_102.out
                have hnc30 := NB102_101.out
                have hnb31 := NB101_103.out
                have hnc31 := NB103_101.out
                have hcz32_0 : wr.cell? ⟨gb101, 0, none⟩ = some (.int .i64 a0_0) := (blk_cell BK101.out 0).trans rfl
                have hcz32_1 : wr.cell? ⟨gb101, 1, none⟩ = some (.int .i64 a0_1) := (blk_cell BK101.out 1).trans rfl
                have hcz32_2 : wr.cell? ⟨gb101, 2, none⟩ = some (.int .u64 a0_2) := (blk_cell BK101.out 2).trans rfl
                have hcz32_3 : wr.cell? ⟨gb101, 3, none⟩ = some (.int .i64 a0_3) := (blk_cell BK101.out 3).trans rfl
                have hcz32_4 : wr.cell? ⟨gb101, 4, none⟩ = some (.int .i64 a0_4) := (blk_cell BK101.out 4).trans rfl
                have hcz32_5 : wr.cell? ⟨gb101, 5, none⟩ = some (.int .i64 a0_5) := (blk_cell BK101.out 5).trans rfl
                have hfz32_0 := blk_frozen BK101.out 0
                have hfz32_1 := blk_frozen BK101.out 1
                have hfz32_2 := blk_frozen BK101.out 2
                have hfz32_3 := blk_frozen BK101.out 3
                have hfz32_4 := blk_frozen BK101.out 4
                have hfz32_5 := blk_frozen BK101.out 5
                have hnb33 := NB103_102.out
                have hnc33 := NB102_103.out
                have hcz34_0 : wr.cell? ⟨gb103, 0, none⟩ = some (.int .i64 x104000_1) := (blk_cell BK103.out 0).trans rfl
                have hcz34_1 : wr.cell? ⟨gb103, 1, none⟩ = some (.int .i64 x104001_1) := (blk_cell BK103.out 1).trans rfl
                have hcz34_2 : wr.cell? ⟨gb103, 2, none⟩ = some (.int .i64 x104002_1) := (blk_cell BK103.out 2).trans rfl
                have hfz34_0 := blk_frozen BK103.out 0
                have hfz34_1 := blk_frozen BK103.out 1
                have hfz34_2 := blk_frozen BK103.out 2
                have hcz35_0 : wr.cell? ⟨gb102, 0, none⟩ = some (.int .i64 x103000_1) := (blk_cell BK102.out 0).trans rfl
                have hcz35_1 : wr.cell? ⟨gb102, 1, none⟩ = some (.int .i64 x103001_1) := (blk_cell BK102.out 1).trans rfl
                have hcz35_2 : wr.cell? ⟨gb102, 2, none⟩ = some (.int .i64 x103002_1) := (blk_cell BK102.out 2).trans rfl
                have hfz35_0 := blk_frozen BK102.out 0
                have hfz35_1 := blk_frozen BK102.out 1
                have hfz35_2 := blk_frozen BK102.out 2
                go_wp2
                refine bodyPost_ret (results_ct rfl _ _ gb102 30 #[.int .i64 x104000_1, .int .i64 x104001_1, .int .i64 x104002_1] (0, 0) _ rfl (by (with_reducible repeat (first | refine blk_drewN ?_ _ | refine blk_drew ?_ | refine blk_alloc ?_ _)); refine blk_put (cs := #[.int .i64 x104000_1, .int .i64 x104001_1, .int .i64 x103002_1]) ?_ 2 _ rfl; (with_reducible repeat (first | refine blk_drewN ?_ _ | refine blk_drew ?_ | refine blk_alloc ?_ _)); refine blk_put (cs := #[.int .i64 x104000_1, .int .i64 x103001_1, .int .i64 x103002_1]) ?_ 1 _ rfl; (with_reducible repeat (first | refine blk_drewN ?_ _ | refine blk_drew ?_ | refine blk_alloc ?_ _)); refine blk_put (cs := #[.int .i64 x103000_1, .int .i64 x103001_1, .int .i64 x103002_1]) ?_ 0 _ rfl; (with_reducible repeat (first | refine blk_drewN ?_ _ | refine blk_drew ?_ | refine blk_alloc ?_ _)); exact BK102.out) Try.underlying30 rfl (by kernel_rfl)) rfl ?_
                exact ⟨by first | rfl | (simp [errW_none, errW_some] <;> rfl) | (simp [*, errW_none, errW_some] <;> rfl), by repeat (first | (with_reducible first | exact HB.out | apply below_alloc | apply pw_below_drewN | apply below_drew1 | refine below_set ?_ GE101.out | refine below_set ?_ GE102.out | refine below_set ?_ GE103.out) | exact HB.out)⟩
            · rw [if_neg c24] at H
              have c24b0 : (x12_1 == 1) = false := beq_eq_false_iff_ne.mpr c24
              have c24b1 : (x12_1 != 1) = true := bne_iff_ne.mpr c24
              by_cases c36 : x12_1 = 2
              · rw [if_pos c36] at H
                have c36b0 : (x12_1 == 2) = true := beq_iff_eq.mpr c36
                have c36b1 : (x12_1 != 2) = false := bne_eq_false_iff_eq.mpr c36
                clear c36
                have hai37_ : (x12_1 : Int) = 2 := beq_iff_eq.mp (by first | (with_reducible assumption) | assumption)
                have p37 : (0 ≤ (x12_1 : Int)) = True := eq_true (by omega)
                have q37 : ((x12_1 : Int) < 3) = True := eq_true (by omega)
                have qi37 : True → (x12_1 : Int).toNat = 2 := fun _ => by omega
                clear hai37_
                by_cases c38 : a0_5 = 0
                · rw [if_pos c38] at H
                  have c38b0 : (a0_5 == 0) = true := beq_iff_eq.mpr c38
                  have c38b1 : (a0_5 != 0) = false := bne_eq_false_iff_eq.mpr c38
                  clear c38
                  have H' := Aside0.mk H
                  clear H
                  have hnb39 := NB101_102.out
                  have hnc39 := NB102_101.out
                  have hnb40 := NB101_103.out
                  have hnc40 := NB103_101.out
                  have hcz41_0 : wr.cell? ⟨gb101, 0, none⟩ = some (.int .i64 a0_0) := (blk_cell BK101.out 0).trans rfl
                  have hcz41_1 : wr.cell? ⟨gb101, 1, none⟩ = some (.int .i64 a0_1) := (blk_cell BK101.out 1).trans rfl
                  have hcz41_2 : wr.cell? ⟨gb101, 2, none⟩ = some (.int .u64 a0_2) := (blk_cell BK101.out 2).trans rfl
                  have hcz41_3 : wr.cell? ⟨gb101, 3, none⟩ = some (.int .i64 a0_3) := (blk_cell BK101.out 3).trans rfl
                  have hcz41_4 : wr.cell? ⟨gb101, 4, none⟩ = some (.int .i64 a0_4) := (blk_cell BK101.out 4).trans rfl
                  have hcz41_5 : wr.cell? ⟨gb101, 5, none⟩ = some (.int .i64 a0_5) := (blk_cell BK101.out 5).trans rfl
                  have hfz41_0 := blk_frozen BK101.out 0
                  have hfz41_1 := blk_frozen BK101.out 1
                  have hfz41_2 := blk_frozen BK101.out 2
                  have hfz41_3 := blk_frozen BK101.out 3
                  have hfz41_4 := blk_frozen BK101.out 4
                  have hfz41_5 := blk_frozen BK101.out 5
                  go_wp2
                  go_roundg k1
                  case measure => have := HK1.out; omega
                  case rel => exact ⟨(wrap64 (x12_1 + 1)), (x103000_1), (x103001_1), (x103002_1), (x104000_1), (x104001_1), (x104002_1), (by first | rfl | (simp; done) | (simp [*]; done)), H', ⟨by have := HK1.out; omega⟩, ⟨by (with_reducible repeat (first | refine blk_drewN ?_ _ | refine blk_drew ?_ | refine blk_alloc ?_ _)); exact BK101.out⟩, ⟨by (with_reducible repeat (first | refine blk_drewN ?_ _ | refine blk_drew ?_ | refine blk_alloc ?_ _)); exact BK102.out⟩, ⟨by (with_reducible repeat (first | refine blk_drewN ?_ _ | refine blk_drew ?_ | refine blk_alloc ?_ _)); exact BK103.out⟩, ⟨by repeat (first | (with_reducible first | exact HB.out | apply below_alloc | apply pw_below_drewN | apply below_drew1 | refine below_set ?_ GE101.out | refine below_set ?_ GE102.out | refine below_set ?_ GE103.out) | exact HB.out)⟩⟩
                · rw [if_neg c38] at H
                  have c38b0 : (a0_5 == 0) = false := beq_eq_false_iff_ne.mpr c38
                  have c38b1 : (a0_5 != 0) = true := bne_iff_ne.mpr c38
                  simp only [Option.some.injEq, Prod.mk.injEq] at H
                  obtain ⟨rfl, rfl, rfl, rfl⟩ := H
                  have hnb42 := NB101_102.out
                  have hnc42 := NB102_101.out
                  have hnb43 := NB101_103.out
                  have hnc43 := NB103_101.out
                  have hcz44_0 : wr.cell? ⟨gb101, 0, none⟩ = some (.int .i64 a0_0) := (blk_cell BK101.out 0).trans rfl
                  have hcz44_1 : wr.cell? ⟨gb101, 1, none⟩ = some (.int .i64 a0_1) := (blk_cell BK101.out 1).trans rfl
                  have hcz44_2 : wr.cell? ⟨gb101, 2, none⟩ = some (.int .u64 a0_2) := (blk_cell BK101.out 2).trans rfl
                  have hcz44_3 : wr.cell? ⟨gb101, 3, none⟩ = some (.int .i64 a0_3) := (blk_cell BK101.out 3).trans rfl
                  have hcz44_4 : wr.cell? ⟨gb101, 4, none⟩ = some (.int .i64 a0_4) := (blk_cell BK101.out 4).trans rfl
                  have hcz44_5 : wr.cell? ⟨gb101, 5, none⟩ = some (.int .i64 a0_5) := (blk_cell BK101.out 5).trans rfl
                  have hfz44_0 := blk_frozen BK101.out 0
                  have hfz44_1 := blk_frozen BK101.out 1
                  have hfz44_2 := blk_frozen BK101.out 2
                  have hfz44_3 := blk_frozen BK101.out 3
                  have hfz44_4 := blk_frozen BK101.out 4
                  have hfz44_5 := blk_frozen BK101.out 5
                  have hnb45 := NB103_102.out
                  have hnc45 := NB102_103.out
                  have hcz46_0 : wr.cell? ⟨gb103, 0, none⟩ = some (.int .i64 x104000_1) := (blk_cell BK103.out 0).trans rfl
                  have hcz46_1 : wr.cell? ⟨gb103, 1, none⟩ = some (.int .i64 x104001_1) := (blk_cell BK103.out 1).trans rfl
                  have hcz46_2 : wr.cell? ⟨gb103, 2, none⟩ = some (.int .i64 x104002_1) := (blk_cell BK103.out 2).trans rfl
                  have hfz46_0 := blk_frozen BK103.out 0
                  have hfz46_1 := blk_frozen BK103.out 1
                  have hfz46_2 := blk_frozen BK103.out 2
                  have hcz47_0 : wr.cell? ⟨gb102, 0, none⟩ = some (.int .i64 x103000_1) := (blk_cell BK102.out 0).trans rfl
                  have hcz47_1 : wr.cell? ⟨gb102, 1, none⟩ = some (.int .i64 x103001_1) := (blk_cell BK102.out 1).trans rfl
                  have hcz47_2 : wr.cell? ⟨gb102, 2, none⟩ = some (.int .i64 x103002_1) := (blk_cell BK102.out 2).trans rfl
                  have hfz47_0 := blk_frozen BK102.out 0
                  have hfz47_1 := blk_frozen BK102.out 1
                  have hfz47_2 := blk_frozen BK102.out 2
                  go_wp2
                  refine bodyPost_ret (results_ct rfl _ _ gb102 30 #[.int .i64 x104000_1, .int .i64 x104001_1, .int .i64 x104002_1] (0, 0) _ rfl (by (with_reducible repeat (first | refine blk_drewN ?_ _ | refine blk_drew ?_ | refine blk_alloc ?_ _)); refine blk_put (cs := #[.int .i64 x104000_1, .int .i64 x104001_1, .int .i64 x103002_1]) ?_ 2 _ rfl; (with_reducible repeat (first | refine blk_drewN ?_ _ | refine blk_drew ?_ | refine blk_alloc ?_ _)); refine blk_put (cs := #[.int .i64 x104000_1, .int .i64 x103001_1, .int .i64 x103002_1]) ?_ 1 _ rfl; (with_reducible repeat (first | refine blk_drewN ?_ _ | refine blk_drew ?_ | refine blk_alloc ?_ _)); refine blk_put (cs := #[.int .i64 x103000_1, .int .i64 x103001_1, .int .i64 x103002_1]) ?_ 0 _ rfl; (with_reducible repeat (first | refine blk_drewN ?_ _ | refine blk_drew ?_ | refine blk_alloc ?_ _)); exact BK102.out) Try.underlying30 rfl (by kernel_rfl)) rfl ?_
                  exact ⟨by first | rfl | (simp [errW_none, errW_some] <;> rfl) | (simp [*, errW_none, errW_some] <;> rfl), by repeat (first | (with_reducible first | exact HB.out | apply below_alloc | apply pw_below_drewN | apply below_drew1 | refine below_set ?_ GE101.out | refine below_set ?_ GE102.out | refine below_set ?_ GE103.out) | exact HB.out)⟩
              · rw [if_neg c36] at H
                exact absurd H (by simp)
        · rw [if_neg c11] at H
          have c11b0 : decide (t104 ≤ x12_1) = false := decide_eq_false c11
          clear c11
          have HC48 := Aside0.mk H
          clear H
          go_upto_region 10 with (fail)
          go_cut [35] (fun v35 wc => ∃ (kq : Nat) (x35_47 : Bool), v35 = .bool x35_47 ∧ Aside0 (term_kids.j1 kq l1 t104 x12_1 x12_1 x35_47 a0_0 a0_1 a0_2 a0_3 a0_4 a0_5 x104000_1 x104001_1 x104002_1 = some (r1, r2, r3, r4)) ∧ Aside0 (kq ≤ k1) ∧ Aside0 (wc.heap[gb101]? = some (.cells #[.int .i64 a0_0, .int .i64 a0_1, .int .u64 a0_2, .int .i64 a0_3, .int .i64 a0_4, .int .i64 a0_5] 32 (0, 0))) ∧ Aside0 (wc.heap[gb102]? = some (.cells #[.int .i64 x103000_1, .int .i64 x103001_1, .int .i64 x103002_1] 30 (0, 0))) ∧ Aside0 (wc.heap[gb103]? = some (.cells #[.int .i64 x104000_1, .int .i64 x104001_1, .int .i64 x104002_1] 30 (0, 0))) ∧ Aside0 (Below w.heap.size w wc))
          case first =>
            have H := HC48.out
            clear HC48
            by_cases c49 : x12_1 = 0
            · rw [if_pos c49] at H
              have c49b0 : (x12_1 == 0) = true := beq_iff_eq.mpr c49
              have c49b1 : (x12_1 != 0) = false := bne_eq_false_iff_eq.mpr c49
              clear c49
              (first | rw [c49b0] | (simp only [i64_w, i32_w]; rw [c49b0]) | skip)
              have hai50_ : (x12_1 : Int) = 0 := beq_iff_eq.mp (by first | (with_reducible assumption) | assumption)
              have p50 : (0 ≤ (x12_1 : Int)) = True := eq_true (by omega)
              have q50 : ((x12_1 : Int) < 3) = True := eq_true (by omega)
              have qi50 : True → (x12_1 : Int).toNat = 0 := fun _ => by omega
              clear hai50_
              by_cases c51 : a0_3 < 0
              · rw [if_pos c51] at H
                have c51b0 : decide (a0_3 < 0) = true := decide_eq_true c51
                clear c51
                have H' := Aside0.mk H
                clear H
                have hnb52 := NB101_102.out
                have hnc52 := NB102_101.out
                have hnb53 := NB101_103.out
                have hnc53 := NB103_101.out
                have hcz54_0 : wr.cell? ⟨gb101, 0, none⟩ = some (.int .i64 a0_0) := (blk_cell BK101.out 0).trans rfl
                have hcz54_1 : wr.cell? ⟨gb101, 1, none⟩ = some (.int .i64 a0_1) := (blk_cell BK101.out 1).trans rfl
                have hcz54_2 : wr.cell? ⟨gb101, 2, none⟩ = some (.int .u64 a0_2) := (blk_cell BK101.out 2).trans rfl
                have hcz54_3 : wr.cell? ⟨gb101, 3, none⟩ = some (.int .i64 a0_3) := (blk_cell BK101.out 3).trans rfl
                have hcz54_4 : wr.cell? ⟨gb101, 4, none⟩ = some (.int .i64 a0_4) := (blk_cell BK101.out 4).trans rfl
                have hcz54_5 : wr.cell? ⟨gb101, 5, none⟩ = some (.int .i64 a0_5) := (blk_cell BK101.out 5).trans rfl
                have hfz54_0 := blk_frozen BK101.out 0
                have hfz54_1 := blk_frozen BK101.out 1
                have hfz54_2 := blk_frozen BK101.out 2
                have hfz54_3 := blk_frozen BK101.out 3
                have hfz54_4 := blk_frozen BK101.out 4
                have hfz54_5 := blk_frozen BK101.out 5
                go_wp2
                go_meet
                case rel => exact ⟨_, (true), (by first | rfl | (simp; done) | (simp [*]; done)), H', ⟨by have := HK1.out; first | omega | exact Nat.le_refl _⟩, ⟨by (with_reducible repeat (first | refine blk_drewN ?_ _ | refine blk_drew ?_ | refine blk_alloc ?_ _)); exact BK101.out⟩, ⟨by (with_reducible repeat (first | refine blk_drewN ?_ _ | refine blk_drew ?_ | refine blk_alloc ?_ _)); exact BK102.out⟩, ⟨by (with_reducible repeat (first | refine blk_drewN ?_ _ | refine blk_drew ?_ | refine blk_alloc ?_ _)); exact BK103.out⟩, ⟨by repeat (first | (with_reducible first | exact HB.out | apply below_alloc | apply pw_below_drewN | apply below_drew1 | refine below_set ?_ GE101.out | refine below_set ?_ GE102.out | refine below_set ?_ GE103.out) | exact HB.out)⟩⟩
              · rw [if_neg c51] at H
                have c51b0 : decide (a0_3 < 0) = false := decide_eq_false c51
                clear c51
                have hai55_ : (x12_1 : Int) = 0 := beq_iff_eq.mp (by first | (with_reducible assumption) | assumption)
                have p55 : (0 ≤ (x12_1 : Int)) = True := eq_true (by omega)
                have q55 : ((x12_1 : Int) < 3) = True := eq_true (by omega)
                have qi55 : True → (x12_1 : Int).toNat = 0 := fun _ => by omega
                clear hai55_
                have H' := Aside0.mk H
                clear H
                have hnb56 := NB101_102.out
                have hnc56 := NB102_101.out
                have hnb57 := NB101_103.out
                have hnc57 := NB103_101.out
                have hcz58_0 : wr.cell? ⟨gb101, 0, none⟩ = some (.int .i64 a0_0) := (blk_cell BK101.out 0).trans rfl
                have hcz58_1 : wr.cell? ⟨gb101, 1, none⟩ = some (.int .i64 a0_1) := (blk_cell BK101.out 1).trans rfl
                have hcz58_2 : wr.cell? ⟨gb101, 2, none⟩ = some (.int .u64 a0_2) := (blk_cell BK101.out 2).trans rfl
                have hcz58_3 : wr.cell? ⟨gb101, 3, none⟩ = some (.int .i64 a0_3) := (blk_cell BK101.out 3).trans rfl
                have hcz58_4 : wr.cell? ⟨gb101, 4, none⟩ = some (.int .i64 a0_4) := (blk_cell BK101.out 4).trans rfl
                have hcz58_5 : wr.cell? ⟨gb101, 5, none⟩ = some (.int .i64 a0_5) := (blk_cell BK101.out 5).trans rfl
                have hfz58_0 := blk_frozen BK101.out 0
                have hfz58_1 := blk_frozen BK101.out 1
                have hfz58_2 := blk_frozen BK101.out 2
                have hfz58_3 := blk_frozen BK101.out 3
                have hfz58_4 := blk_frozen BK101.out 4
                have hfz58_5 := blk_frozen BK101.out 5
                go_wp2
                go_meet
                case rel => exact ⟨_, (decide (a0_3 ≥ (l1.length : Int))), (by first | rfl | (simp; done) | (simp [*]; done)), H', ⟨by have := HK1.out; first | omega | exact Nat.le_refl _⟩, ⟨by (with_reducible repeat (first | refine blk_drewN ?_ _ | refine blk_drew ?_ | refine blk_alloc ?_ _)); exact BK101.out⟩, ⟨by (with_reducible repeat (first | refine blk_drewN ?_ _ | refine blk_drew ?_ | refine blk_alloc ?_ _)); exact BK102.out⟩, ⟨by (with_reducible repeat (first | refine blk_drewN ?_ _ | refine blk_drew ?_ | refine blk_alloc ?_ _)); exact BK103.out⟩, ⟨by repeat (first | (with_reducible first | exact HB.out | apply below_alloc | apply pw_below_drewN | apply below_drew1 | refine below_set ?_ GE101.out | refine below_set ?_ GE102.out | refine below_set ?_ GE103.out) | exact HB.out)⟩⟩
            · rw [if_neg c49] at H
              have c49b0 : (x12_1 == 0) = false := beq_eq_false_iff_ne.mpr c49
              have c49b1 : (x12_1 != 0) = true := bne_iff_ne.mpr c49
              (first | rw [c49b0] | (simp only [i64_w, i32_w]; rw [c49b0]) | skip)
              by_cases c59 : x12_1 = 1
              · rw [if_pos c59] at H
                have c59b0 : (x12_1 == 1) = true := beq_iff_eq.mpr c59
                have c59b1 : (x12_1 != 1) = false := bne_eq_false_iff_eq.mpr c59
                clear c59
                have hai60_ : (x12_1 : Int) = 1 := beq_iff_eq.mp (by first | (with_reducible assumption) | assumption)
                have p60 : (0 ≤ (x12_1 : Int)) = True := eq_true (by omega)
                have q60 : ((x12_1 : Int) < 3) = True := eq_true (by omega)
                have qi60 : True → (x12_1 : Int).toNat = 1 := fun _ => by omega
                clear hai60_
                by_cases c61 : a0_4 < 0
                · rw [if_pos c61] at H
                  have c61b0 : decide (a0_4 < 0) = true := decide_eq_true c61
                  clear c61
                  have H' := Aside0.mk H
                  clear H
                  have hnb62 := NB101_102.out
                  have hnc62 := NB102_101.out
                  have hnb63 := NB101_103.out
                  have hnc63 := NB103_101.out
                  have hcz64_0 : wr.cell? ⟨gb101, 0, none⟩ = some (.int .i64 a0_0) := (blk_cell BK101.out 0).trans rfl
                  have hcz64_1 : wr.cell? ⟨gb101, 1, none⟩ = some (.int .i64 a0_1) := (blk_cell BK101.out 1).trans rfl
                  have hcz64_2 : wr.cell? ⟨gb101, 2, none⟩ = some (.int .u64 a0_2) := (blk_cell BK101.out 2).trans rfl
                  have hcz64_3 : wr.cell? ⟨gb101, 3, none⟩ = some (.int .i64 a0_3) := (blk_cell BK101.out 3).trans rfl
                  have hcz64_4 : wr.cell? ⟨gb101, 4, none⟩ = some (.int .i64 a0_4) := (blk_cell BK101.out 4).trans rfl
                  have hcz64_5 : wr.cell? ⟨gb101, 5, none⟩ = some (.int .i64 a0_5) := (blk_cell BK101.out 5).trans rfl
                  have hfz64_0 := blk_frozen BK101.out 0
                  have hfz64_1 := blk_frozen BK101.out 1
                  have hfz64_2 := blk_frozen BK101.out 2
                  have hfz64_3 := blk_frozen BK101.out 3
                  have hfz64_4 := blk_frozen BK101.out 4
                  have hfz64_5 := blk_frozen BK101.out 5
                  go_wp2
                  go_meet
                  case rel => exact ⟨_, (true), (by first | rfl | (simp; done) | (simp [*]; done)), H', ⟨by have := HK1.out; first | omega | exact Nat.le_refl _⟩, ⟨by (with_reducible repeat (first | refine blk_drewN ?_ _ | refine blk_drew ?_ | refine blk_alloc ?_ _)); exact BK101.out⟩, ⟨by (with_reducible repeat (first | refine blk_drewN ?_ _ | refine blk_drew ?_ | refine blk_alloc ?_ _)); exact BK102.out⟩, ⟨by (with_reducible repeat (first | refine blk_drewN ?_ _ | refine blk_drew ?_ | refine blk_alloc ?_ _)); exact BK103.out⟩, ⟨by repeat (first | (with_reducible first | exact HB.out | apply below_alloc | apply pw_below_drewN | apply below_drew1 | refine below_set ?_ GE101.out | refine below_set ?_ GE102.out | refine below_set ?_ GE103.out) | exact HB.out)⟩⟩
                · rw [if_neg c61] at H
                  have c61b0 : decide (a0_4 < 0) = false := decide_eq_false c61
                  clear c61
                  have hai65_ : (x12_1 : Int) = 1 := beq_iff_eq.mp (by first | (with_reducible assumption) | assumption)
                  have p65 : (0 ≤ (x12_1 : Int)) = True := eq_true (by omega)
                  have q65 : ((x12_1 : Int) < 3) = True := eq_true (by omega)
                  have qi65 : True → (x12_1 : Int).toNat = 1 := fun _ => by omega
                  clear hai65_
                  have H' := Aside0.mk H
                  clear H
                  have hnb66 := NB101_102.out
                  have hnc66 := NB102_101.out
                  have hnb67 := NB101_103.out
                  have hnc67 := NB103_101.out
                  have hcz68_0 : wr.cell? ⟨gb101, 0, none⟩ = some (.int .i64 a0_0) := (blk_cell BK101.out 0).trans rfl
                  have hcz68_1 : wr.cell? ⟨gb101, 1, none⟩ = some (.int .i64 a0_1) := (blk_cell BK101.out 1).trans rfl
                  have hcz68_2 : wr.cell? ⟨gb101, 2, none⟩ = some (.int .u64 a0_2) := (blk_cell BK101.out 2).trans rfl
                  have hcz68_3 : wr.cell? ⟨gb101, 3, none⟩ = some (.int .i64 a0_3) := (blk_cell BK101.out 3).trans rfl
                  have hcz68_4 : wr.cell? ⟨gb101, 4, none⟩ = some (.int .i64 a0_4) := (blk_cell BK101.out 4).trans rfl
                  have hcz68_5 : wr.cell? ⟨gb101, 5, none⟩ = some (.int .i64 a0_5) := (blk_cell BK101.out 5).trans rfl
                  have hfz68_0 := blk_frozen BK101.out 0
                  have hfz68_1 := blk_frozen BK101.out 1
                  have hfz68_2 := blk_frozen BK101.out 2
                  have hfz68_3 := blk_frozen BK101.out 3
                  have hfz68_4 := blk_frozen BK101.out 4
                  have hfz68_5 := blk_frozen BK101.out 5
                  go_wp2
                  go_meet
                  case rel => exact ⟨_, (decide (a0_4 ≥ (l1.length : Int))), (by first | rfl | (simp; done) | (simp [*]; done)), H', ⟨by have := HK1.out; first | omega | exact Nat.le_refl _⟩, ⟨by (with_reducible repeat (first | refine blk_drewN ?_ _ | refine blk_drew ?_ | refine blk_alloc ?_ _)); exact BK101.out⟩, ⟨by (with_reducible repeat (first | refine blk_drewN ?_ _ | refine blk_drew ?_ | refine blk_alloc ?_ _)); exact BK102.out⟩, ⟨by (with_reducible repeat (first | refine blk_drewN ?_ _ | refine blk_drew ?_ | refine blk_alloc ?_ _)); exact BK103.out⟩, ⟨by repeat (first | (with_reducible first | exact HB.out | apply below_alloc | apply pw_below_drewN | apply below_drew1 | refine below_set ?_ GE101.out | refine below_set ?_ GE102.out | refine below_set ?_ GE103.out) | exact HB.out)⟩⟩
              · rw [if_neg c59] at H
                have c59b0 : (x12_1 == 1) = false := beq_eq_false_iff_ne.mpr c59
                have c59b1 : (x12_1 != 1) = true := bne_iff_ne.mpr c59
                by_cases c69 : x12_1 = 2
                · rw [if_pos c69] at H
                  have c69b0 : (x12_1 == 2) = true := beq_iff_eq.mpr c69
                  have c69b1 : (x12_1 != 2) = false := bne_eq_false_iff_eq.mpr c69
                  clear c69
                  have hai70_ : (x12_1 : Int) = 2 := beq_iff_eq.mp (by first | (with_reducible assumption) | assumption)
                  have p70 : (0 ≤ (x12_1 : Int)) = True := eq_true (by omega)
                  have q70 : ((x12_1 : Int) < 3) = True := eq_true (by omega)
                  have qi70 : True → (x12_1 : Int).toNat = 2 := fun _ => by omega
                  clear hai70_
                  by_cases c71 : a0_5 < 0
                  · rw [if_pos c71] at H
                    have c71b0 : decide (a0_5 < 0) = true := decide_eq_true c71
                    clear c71
                    have H' := Aside0.mk H
                    clear H
                    have hnb72 := NB101_102.out
                    have hnc72 := NB102_101.out
                    have hnb73 := NB101_103.out
                    have hnc73 := NB103_101.out
                    have hcz74_0 : wr.cell? ⟨gb101, 0, none⟩ = some (.int .i64 a0_0) := (blk_cell BK101.out 0).trans rfl
                    have hcz74_1 : wr.cell? ⟨gb101, 1, none⟩ = some (.int .i64 a0_1) := (blk_cell BK101.out 1).trans rfl
                    have hcz74_2 : wr.cell? ⟨gb101, 2, none⟩ = some (.int .u64 a0_2) := (blk_cell BK101.out 2).trans rfl
                    have hcz74_3 : wr.cell? ⟨gb101, 3, none⟩ = some (.int .i64 a0_3) := (blk_cell BK101.out 3).trans rfl
                    have hcz74_4 : wr.cell? ⟨gb101, 4, none⟩ = some (.int .i64 a0_4) := (blk_cell BK101.out 4).trans rfl
                    have hcz74_5 : wr.cell? ⟨gb101, 5, none⟩ = some (.int .i64 a0_5) := (blk_cell BK101.out 5).trans rfl
                    have hfz74_0 := blk_frozen BK101.out 0
                    have hfz74_1 := blk_frozen BK101.out 1
                    have hfz74_2 := blk_frozen BK101.out 2
                    have hfz74_3 := blk_frozen BK101.out 3
                    have hfz74_4 := blk_frozen BK101.out 4
                    have hfz74_5 := blk_frozen BK101.out 5
                    go_wp2
                    go_meet
                    case rel => exact ⟨_, (true), (by first | rfl | (simp; done) | (simp [*]; done)), H', ⟨by have := HK1.out; first | omega | exact Nat.le_refl _⟩, ⟨by (with_reducible repeat (first | refine blk_drewN ?_ _ | refine blk_drew ?_ | refine blk_alloc ?_ _)); exact BK101.out⟩, ⟨by (with_reducible repeat (first | refine blk_drewN ?_ _ | refine blk_drew ?_ | refine blk_alloc ?_ _)); exact BK102.out⟩, ⟨by (with_reducible repeat (first | refine blk_drewN ?_ _ | refine blk_drew ?_ | refine blk_alloc ?_ _)); exact BK103.out⟩, ⟨by repeat (first | (with_reducible first | exact HB.out | apply below_alloc | apply pw_below_drewN | apply below_drew1 | refine below_set ?_ GE101.out | refine below_set ?_ GE102.out | refine below_set ?_ GE103.out) | exact HB.out)⟩⟩
                  · rw [if_neg c71] at H
                    have c71b0 : decide (a0_5 < 0) = false := decide_eq_false c71
                    clear c71
                    have hai75_ : (x12_1 : Int) = 2 := beq_iff_eq.mp (by first | (with_reducible assumption) | assumption)
                    have p75 : (0 ≤ (x12_1 : Int)) = True := eq_true (by omega)
                    have q75 : ((x12_1 : Int) < 3) = True := eq_true (by omega)
                    have qi75 : True → (x12_1 : Int).toNat = 2 := fun _ => by omega
                    clear hai75_
                    have H' := Aside0.mk H
                    clear H
                    have hnb76 := NB101_102.out
                    have hnc76 := NB102_101.out
                    have hnb77 := NB101_103.out
                    have hnc77 := NB103_101.out
                    have hcz78_0 : wr.cell? ⟨gb101, 0, none⟩ = some (.int .i64 a0_0) := (blk_cell BK101.out 0).trans rfl
                    have hcz78_1 : wr.cell? ⟨gb101, 1, none⟩ = some (.int .i64 a0_1) := (blk_cell BK101.out 1).trans rfl
                    have hcz78_2 : wr.cell? ⟨gb101, 2, none⟩ = some (.int .u64 a0_2) := (blk_cell BK101.out 2).trans rfl
                    have hcz78_3 : wr.cell? ⟨gb101, 3, none⟩ = some (.int .i64 a0_3) := (blk_cell BK101.out 3).trans rfl
                    have hcz78_4 : wr.cell? ⟨gb101, 4, none⟩ = some (.int .i64 a0_4) := (blk_cell BK101.out 4).trans rfl
                    have hcz78_5 : wr.cell? ⟨gb101, 5, none⟩ = some (.int .i64 a0_5) := (blk_cell BK101.out 5).trans rfl
                    have hfz78_0 := blk_frozen BK101.out 0
                    have hfz78_1 := blk_frozen BK101.out 1
                    have hfz78_2 := blk_frozen BK101.out 2
                    have hfz78_3 := blk_frozen BK101.out 3
                    have hfz78_4 := blk_frozen BK101.out 4
                    have hfz78_5 := blk_frozen BK101.out 5
                    go_wp2
                    go_meet
                    case rel => exact ⟨_, (decide (a0_5 ≥ (l1.length : Int))), (by first | rfl | (simp; done) | (simp [*]; done)), H', ⟨by have := HK1.out; first | omega | exact Nat.le_refl _⟩, ⟨by (with_reducible repeat (first | refine blk_drewN ?_ _ | refine blk_drew ?_ | refine blk_alloc ?_ _)); exact BK101.out⟩, ⟨by (with_reducible repeat (first | refine blk_drewN ?_ _ | refine blk_drew ?_ | refine blk_alloc ?_ _)); exact BK102.out⟩, ⟨by (with_reducible repeat (first | refine blk_drewN ?_ _ | refine blk_drew ?_ | refine blk_alloc ?_ _)); exact BK103.out⟩, ⟨by repeat (first | (with_reducible first | exact HB.out | apply below_alloc | apply pw_below_drewN | apply below_drew1 | refine below_set ?_ GE101.out | refine below_set ?_ GE102.out | refine below_set ?_ GE103.out) | exact HB.out)⟩⟩
                · rw [if_neg c69] at H
                  exact absurd H (by simp)
          case rest =>
            clear HC48
            try clear c1
            try clear p1
            try clear q1
            try clear qi1
            try clear c2
            try clear p2
            try clear q2
            try clear qi2
            try clear c3
            try clear p3
            try clear q3
            try clear qi3
            try clear c4
            try clear c5
            try clear p5
            try clear q5
            try clear qi5
            try clear c6
            try clear p6
            try clear q6
            try clear qi6
            try clear c7
            try clear p7
            try clear q7
            try clear qi7
            try clear c8
            try clear c10
            try clear c10b0
            try clear c11
            try clear c11b0
            try clear c12
            try clear c12b0
            try clear c12b1
            try clear p13
            try clear q13
            try clear qi13
            try clear c14
            try clear c14b0
            try clear c14b1
            try clear c15
            try clear c16
            try clear c18
            try clear c19
            try clear c21
            try clear c24
            try clear c24b0
            try clear c24b1
            try clear p25
            try clear q25
            try clear qi25
            try clear c26
            try clear c26b0
            try clear c26b1
            try clear c27
            try clear c28
            try clear c30
            try clear c31
            try clear c33
            try clear c36
            try clear c36b0
            try clear c36b1
            try clear p37
            try clear q37
            try clear qi37
            try clear c38
            try clear c38b0
            try clear c38b1
            try clear c39
            try clear c40
            try clear c42
            try clear c43
            try clear c45
            try clear c49
            try clear c49b0
            try clear c49b1
            try clear p50
            try clear q50
            try clear qi50
            try clear c51
            try clear c51b0
            try clear c52
            try clear c53
            try clear p55
            try clear q55
            try clear qi55
            try clear c56
            try clear c57
            try clear c59
            try clear c59b0
            try clear c59b1
            try clear p60
            try clear q60
            try clear qi60
            try clear c61
            try clear c61b0
            try clear c62
            try clear c63
            try clear p64
            try clear p65
            try clear q65
            try clear qi65
            try clear c66
            try clear c67
            try clear c69
            try clear c69b0
            try clear c69b1
            try clear p70
            try clear q70
            try clear qi70
            try clear c71
            try clear c71b0
            try clear c72
            try clear c73
            try clear p75
            try clear q75
            try clear qi75
            try clear c76
            try clear c77
            try clear hcz17_0
            try clear hcz17_1
            try clear hcz17_2
            try clear hcz17_3
            try clear hcz17_4
            try clear hcz17_5
            try clear hcz20_0
            try clear hcz20_1
            try clear hcz20_2
            try clear hcz20_3
            try clear hcz20_4
            try clear hcz20_5
            try clear hcz22_0
            try clear hcz22_1
            try clear hcz22_2
            try clear hcz23_0
            try clear hcz23_1
            try clear hcz23_2
            try clear hcz29_0
            try clear hcz29_1
            try clear hcz29_2
            try clear hcz29_3
            try clear hcz29_4
            try clear hcz29_5
            try clear hcz32_0
            try clear hcz32_1
            try clear hcz32_2
            try clear hcz32_3
            try clear hcz32_4
            try clear hcz32_5
            try clear hcz34_0
            try clear hcz34_1
            try clear hcz34_2
            try clear hcz35_0
            try clear hcz35_1
            try clear hcz35_2
            try clear hcz41_0
            try clear hcz41_1
            try clear hcz41_2
            try clear hcz41_3
            try clear hcz41_4
            try clear hcz41_5
            try clear hcz44_0
            try clear hcz44_1
            try clear hcz44_2
            try clear hcz44_3
            try clear hcz44_4
            try clear hcz44_5
            try clear hcz46_0
            try clear hcz46_1
            try clear hcz46_2
            try clear hcz47_0
            try clear hcz47_1
            try clear hcz47_2
            try clear hcz54_0
            try clear hcz54_1
            try clear hcz54_2
            try clear hcz54_3
            try clear hcz54_4
            try clear hcz54_5
            try clear hcz58_0
            try clear hcz58_1
            try clear hcz58_2
            try clear hcz58_3
            try clear hcz58_4
            try clear hcz58_5
            try clear hcz64_0
            try clear hcz64_1
            try clear hcz64_2
            try clear hcz64_3
            try clear hcz64_4
            try clear hcz64_5
            try clear hcz68_0
            try clear hcz68_1
            try clear hcz68_2
            try clear hcz68_3
            try clear hcz68_4
            try clear hcz68_5
            try clear hcz74_0
            try clear hcz74_1
            try clear hcz74_2
            try clear hcz74_3
            try clear hcz74_4
            try clear hcz74_5
            try clear hcz78_0
            try clear hcz78_1
            try clear hcz78_2
            try clear hcz78_3
            try clear hcz78_4
            try clear hcz78_5
            try clear hcz9_0
            try clear hcz9_1
            try clear hcz9_2
            try clear hcz9_3
            try clear hcz9_4
            try clear hcz9_5
            try clear hfz17_0
            try clear hfz17_1
            try clear hfz17_2
            try clear hfz17_3
            try clear hfz17_4
            try clear hfz17_5
            try clear hfz20_0
            try clear hfz20_1
            try clear hfz20_2
            try clear hfz20_3
            try clear hfz20_4
            try clear hfz20_5
            try clear hfz22_0
            try clear hfz22_1
            try clear hfz22_2
            try clear hfz23_0
            try clear hfz23_1
            try clear hfz23_2
            try clear hfz29_0
            try clear hfz29_1
            try clear hfz29_2
            try clear hfz29_3
            try clear hfz29_4
            try clear hfz29_5
            try clear hfz32_0
            try clear hfz32_1
            try clear hfz32_2
            try clear hfz32_3
            try clear hfz32_4
            try clear hfz32_5
            try clear hfz34_0
            try clear hfz34_1
            try clear hfz34_2
            try clear hfz35_0
            try clear hfz35_1
            try clear hfz35_2
            try clear hfz41_0
            try clear hfz41_1
            try clear hfz41_2
            try clear hfz41_3
            try clear hfz41_4
            try clear hfz41_5
            try clear hfz44_0
            try clear hfz44_1
            try clear hfz44_2
            try clear hfz44_3
            try clear hfz44_4
            try clear hfz44_5
            try clear hfz46_0
            try clear hfz46_1
            try clear hfz46_2
            try clear hfz47_0
            try clear hfz47_1
            try clear hfz47_2
            try clear hfz54_0
            try clear hfz54_1
            try clear hfz54_2
            try clear hfz54_3
            try clear hfz54_4
            try clear hfz54_5
            try clear hfz58_0
            try clear hfz58_1
            try clear hfz58_2
            try clear hfz58_3
            try clear hfz58_4
            try clear hfz58_5
            try clear hfz64_0
            try clear hfz64_1
            try clear hfz64_2
            try clear hfz64_3
            try clear hfz64_4
            try clear hfz64_5
            try clear hfz68_0
            try clear hfz68_1
            try clear hfz68_2
            try clear hfz68_3
            try clear hfz68_4
            try clear hfz68_5
            try clear hfz74_0
            try clear hfz74_1
            try clear hfz74_2
            try clear hfz74_3
            try clear hfz74_4
            try clear hfz74_5
            try clear hfz78_0
            try clear hfz78_1
            try clear hfz78_2
            try clear hfz78_3
            try clear hfz78_4
            try clear hfz78_5
            try clear hfz9_0
            try clear hfz9_1
            try clear hfz9_2
            try clear hfz9_3
            try clear hfz9_4
            try clear hfz9_5
            try clear p13
            try clear p2
            try clear p25
            try clear p37
            try clear p50
            try clear p55
            try clear p60
            try clear p65
            try clear p70
            try clear p75
            try clear q13
            try clear q25
            try clear q37
            try clear q50
            try clear q55
            try clear q60
            try clear q65
            try clear q70
            try clear q75
            obtain ⟨kq, x35_47, rfl, HA, HJ47, BK101, BK102, BK103, HB⟩ := hcut
            cases kq with
            | zero => exact absurd HA.out (by simp [term_kids.j1])
            | succ kj47 =>
              have H := HA.out
              clear HA
              simp only [term_kids.j1] at H
              by_cases c79 : x35_47 = true
              · subst c79
                have H1 : (some (x104000_1, x104001_1, x104002_1, false)) = some (r1, r2, r3, r4) := by rw [if_pos rfl] at H; exact H
                clear H
                have H := H1
                clear H1
                simp only [Option.some.injEq, Prod.mk.injEq] at H
                obtain ⟨rfl, rfl, rfl, rfl⟩ := H
                have hnb80 := NB103_101.out
                have hnc80 := NB101_103.out
                have hnb81 := NB103_102.out
                have hnc81 := NB102_103.out
                have hcz82_0 : wc.cell? ⟨gb103, 0, none⟩ = some (.int .i64 x104000_1) := (blk_cell BK103.out 0).trans rfl
                have hcz82_1 : wc.cell? ⟨gb103, 1, none⟩ = some (.int .i64 x104001_1) := (blk_cell BK103.out 1).trans rfl
                have hcz82_2 : wc.cell? ⟨gb103, 2, none⟩ = some (.int .i64 x104002_1) := (blk_cell BK103.out 2).trans rfl
                have hfz82_0 := blk_frozen BK103.out 0
                have hfz82_1 := blk_frozen BK103.out 1
                have hfz82_2 := blk_frozen BK103.out 2
                have hnb83 := NB102_101.out
                have hnc83 := NB101_102.out
                have hcz84_0 : wc.cell? ⟨gb102, 0, none⟩ = some (.int .i64 x103000_1) := (blk_cell BK102.out 0).trans rfl
                have hcz84_1 : wc.cell? ⟨gb102, 1, none⟩ = some (.int .i64 x103001_1) := (blk_cell BK102.out 1).trans rfl
                have hcz84_2 : wc.cell? ⟨gb102, 2, none⟩ = some (.int .i64 x103002_1) := (blk_cell BK102.out 2).trans rfl
                have hfz84_0 := blk_frozen BK102.out 0
                have hfz84_1 := blk_frozen BK102.out 1
                have hfz84_2 := blk_frozen BK102.out 2
                go_wp2
                refine bodyPost_ret (results_ct rfl _ _ gb102 30 #[.int .i64 x104000_1, .int .i64 x104001_1, .int .i64 x104002_1] (0, 0) _ rfl (by (with_reducible repeat (first | refine blk_drewN ?_ _ | refine blk_drew ?_ | refine blk_alloc ?_ _)); refine blk_put (cs := #[.int .i64 x104000_1, .int .i64 x104001_1, .int .i64 x103002_1]) ?_ 2 _ rfl; (with_reducible repeat (first | refine blk_drewN ?_ _ | refine blk_drew ?_ | refine blk_alloc ?_ _)); refine blk_put (cs := #[.int .i64 x104000_1, .int .i64 x103001_1, .int .i64 x103002_1]) ?_ 1 _ rfl; (with_reducible repeat (first | refine blk_drewN ?_ _ | refine blk_drew ?_ | refine blk_alloc ?_ _)); refine blk_put (cs := #[.int .i64 x103000_1, .int .i64 x103001_1, .int .i64 x103002_1]) ?_ 0 _ rfl; (with_reducible repeat (first | refine blk_drewN ?_ _ | refine blk_drew ?_ | refine blk_alloc ?_ _)); exact BK102.out) Try.underlying30 rfl (by kernel_rfl)) rfl ?_
                exact ⟨by first | rfl | (simp [errW_none, errW_some] <;> rfl) | (simp [*, errW_none, errW_some] <;> rfl), by repeat (first | (with_reducible first | exact HB.out | apply below_alloc | apply pw_below_drewN | apply below_drew1 | refine below_set ?_ GE101.out | refine below_set ?_ GE102.out | refine below_set ?_ GE103.out) | exact HB.out)⟩
              · replace c79 := Bool.eq_false_iff.mpr c79
                subst c79
                have H1 : (if x12_1 = 0 then (if 0 ≤ a0_3 then (if a0_3 < (l1.length : Int) then (term_kids.l0 kj47 l1 t104 (wrap64 (x12_1 + 1)) a0_0 a0_1 a0_2 a0_3 a0_4 a0_5 ((rd_T32 l1 a0_3).f1) x104001_1 x104002_1) else (none)) else (none)) else (if x12_1 = 1 then (if 0 ≤ a0_4 then (if a0_4 < (l1.length : Int) then (term_kids.l0 kj47 l1 t104 (wrap64 (x12_1 + 1)) a0_0 a0_1 a0_2 a0_3 a0_4 a0_5 x104000_1 ((rd_T32 l1 a0_4).f1) x104002_1) else (none)) else (none)) else (if x12_1 = 2 then (if 0 ≤ a0_5 then (if a0_5 < (l1.length : Int) then (term_kids.l0 kj47 l1 t104 (wrap64 (x12_1 + 1)) a0_0 a0_1 a0_2 a0_3 a0_4 a0_5 x104000_1 x104001_1 ((rd_T32 l1 a0_5).f1)) else (none)) else (none)) else (none)))) = some (r1, r2, r3, r4) := by rw [if_neg (show ¬ (false = true) by decide)] at H; exact H
                clear H
                have H := H1
                clear H1
                by_cases c85 : x12_1 = 0
                · rw [if_pos c85] at H
                  have c85b0 : (x12_1 == 0) = true := beq_iff_eq.mpr c85
                  have c85b1 : (x12_1 != 0) = false := bne_eq_false_iff_eq.mpr c85
                  clear c85
                  have hai86_ : (x12_1 : Int) = 0 := beq_iff_eq.mp (by first | (with_reducible assumption) | assumption)
                  have p86 : (0 ≤ (x12_1 : Int)) = True := eq_true (by omega)
                  have q86 : ((x12_1 : Int) < 3) = True := eq_true (by omega)
                  have qi86 : True → (x12_1 : Int).toNat = 0 := fun _ => by omega
                  clear hai86_
                  by_cases c87 : 0 ≤ a0_3
                  · rw [if_pos c87] at H
                    have c87b0 : decide (0 ≤ a0_3) = true := decide_eq_true c87
                    clear c87
                    by_cases c88 : a0_3 < (l1.length : Int)
                    · rw [if_pos c88] at H
                      have c88b0 : decide (a0_3 < (l1.length : Int)) = true := decide_eq_true c88
                      clear c88
                      have hai89_ : (x12_1 : Int) = 0 := beq_iff_eq.mp (by first | (with_reducible assumption) | assumption)
                      have p89 : (0 ≤ (x12_1 : Int)) = True := eq_true (by omega)
                      have q89 : ((x12_1 : Int) < 3) = True := eq_true (by omega)
                      have qi89 : True → (x12_1 : Int).toNat = 0 := fun _ => by omega
                      clear hai89_
                      have H' := Aside0.mk H
                      clear H
                      have hnb90 := NB101_102.out
                      have hnc90 := NB102_101.out
                      have hnb91 := NB101_103.out
                      have hnc91 := NB103_101.out
                      have hcz92_0 : wc.cell? ⟨gb101, 0, none⟩ = some (.int .i64 a0_0) := (blk_cell BK101.out 0).trans rfl
                      have hcz92_1 : wc.cell? ⟨gb101, 1, none⟩ = some (.int .i64 a0_1) := (blk_cell BK101.out 1).trans rfl
                      have hcz92_2 : wc.cell? ⟨gb101, 2, none⟩ = some (.int .u64 a0_2) := (blk_cell BK101.out 2).trans rfl
                      have hcz92_3 : wc.cell? ⟨gb101, 3, none⟩ = some (.int .i64 a0_3) := (blk_cell BK101.out 3).trans rfl
                      have hcz92_4 : wc.cell? ⟨gb101, 4, none⟩ = some (.int .i64 a0_4) := (blk_cell BK101.out 4).trans rfl
                      have hcz92_5 : wc.cell? ⟨gb101, 5, none⟩ = some (.int .i64 a0_5) := (blk_cell BK101.out 5).trans rfl
                      have hfz92_0 := blk_frozen BK101.out 0
                      have hfz92_1 := blk_frozen BK101.out 1
                      have hfz92_2 := blk_frozen BK101.out 2
                      have hfz92_3 := blk_frozen BK101.out 3
                      have hfz92_4 := blk_frozen BK101.out 4
                      have hfz92_5 := blk_frozen BK101.out 5
                      have p105 : 0 ≤ (a0_3 : Int) := of_decide_eq_true (by first | (with_reducible assumption) | assumption)
                      have q105 : a0_3 < (l1.length : Int) := of_decide_eq_true (by first | (with_reducible assumption) | assumption)
                      obtain ⟨ad105, e105, hx105_0, hx105_1, hx105_2, hx105_3, hx105_4, hx105_5⟩ := at_T32 HR1.out a0_3 p105 q105
                      cases e105
                      replace hx105_0 := (HB.out.cell (World.block_lt_of_cell? w _ hx105_0)).trans hx105_0
                      replace hx105_1 := (HB.out.cell (World.block_lt_of_cell? w _ hx105_1)).trans hx105_1
                      replace hx105_2 := (HB.out.cell (World.block_lt_of_cell? w _ hx105_2)).trans hx105_2
                      replace hx105_3 := (HB.out.cell (World.block_lt_of_cell? w _ hx105_3)).trans hx105_3
                      replace hx105_4 := (HB.out.cell (World.block_lt_of_cell? w _ hx105_4)).trans hx105_4
                      replace hx105_5 := (HB.out.cell (World.block_lt_of_cell? w _ hx105_5)).trans hx105_5
                      replace p105 := eq_true p105
                      replace q105 := eq_true q105
                      have hnb93 := NB103_102.out
                      have hnc93 := NB102_103.out
                      have hcz94_0 : wc.cell? ⟨gb103, 0, none⟩ = some (.int .i64 x104000_1) := (blk_cell BK103.out 0).trans rfl
                      have hcz94_1 : wc.cell? ⟨gb103, 1, none⟩ = some (.int .i64 x104001_1) := (blk_cell BK103.out 1).trans rfl
                      have hcz94_2 : wc.cell? ⟨gb103, 2, none⟩ = some (.int .i64 x104002_1) := (blk_cell BK103.out 2).trans rfl
                      have hfz94_0 := blk_frozen BK103.out 0
                      have hfz94_1 := blk_frozen BK103.out 1
                      have hfz94_2 := blk_frozen BK103.out 2
                      go_wp2
                      go_roundg kj47
                      case measure => have := HK1.out; have := HJ47.out; omega
                      case rel => exact ⟨(wrap64 (x12_1 + 1)), (x103000_1), (x103001_1), (x103002_1), ((rd_T32 l1 a0_3).f1), (x104001_1), (x104002_1), (by first | rfl | (simp; done) | (simp [*]; done)), H', ⟨by have := HK1.out; have := HJ47.out; omega⟩, ⟨by (with_reducible repeat (first | refine blk_drewN ?_ _ | refine blk_drew ?_ | refine blk_alloc ?_ _)); refine blk_far ?_ NB101_103.out _; (with_reducible repeat (first | refine blk_drewN ?_ _ | refine blk_drew ?_ | refine blk_alloc ?_ _)); exact BK101.out⟩, ⟨by (with_reducible repeat (first | refine blk_drewN ?_ _ | refine blk_drew ?_ | refine blk_alloc ?_ _)); refine blk_far ?_ NB102_103.out _; (with_reducible repeat (first | refine blk_drewN ?_ _ | refine blk_drew ?_ | refine blk_alloc ?_ _)); exact BK102.out⟩, ⟨by (with_reducible repeat (first | refine blk_drewN ?_ _ | refine blk_drew ?_ | refine blk_alloc ?_ _)); refine blk_put (cs := #[.int .i64 x104000_1, .int .i64 x104001_1, .int .i64 x104002_1]) ?_ 0 _ rfl; (with_reducible repeat (first | refine blk_drewN ?_ _ | refine blk_drew ?_ | refine blk_alloc ?_ _)); exact BK103.out⟩, ⟨by repeat (first | (with_reducible first | exact HB.out | apply below_alloc | apply pw_below_drewN | apply below_drew1 | refine below_set ?_ GE101.out | refine below_set ?_ GE102.out | refine below_set ?_ GE103.out) | exact HB.out)⟩⟩
                    · rw [if_neg c88] at H
                      exact absurd H (by simp)
                  · rw [if_neg c87] at H
                    exact absurd H (by simp)
                · rw [if_neg c85] at H
                  have c85b0 : (x12_1 == 0) = false := beq_eq_false_iff_ne.mpr c85
                  have c85b1 : (x12_1 != 0) = true := bne_iff_ne.mpr c85
                  by_cases c95 : x12_1 = 1
                  · rw [if_pos c95] at H
                    have c95b0 : (x12_1 == 1) = true := beq_iff_eq.mpr c95
                    have c95b1 : (x12_1 != 1) = false := bne_eq_false_iff_eq.mpr c95
                    clear c95
                    have hai96_ : (x12_1 : Int) = 1 := beq_iff_eq.mp (by first | (with_reducible assumption) | assumption)
                    have p96 : (0 ≤ (x12_1 : Int)) = True := eq_true (by omega)
                    have q96 : ((x12_1 : Int) < 3) = True := eq_true (by omega)
                    have qi96 : True → (x12_1 : Int).toNat = 1 := fun _ => by omega
                    clear hai96_
                    by_cases c97 : 0 ≤ a0_4
                    · rw [if_pos c97] at H
                      have c97b0 : decide (0 ≤ a0_4) = true := decide_eq_true c97
                      clear c97
                      by_cases c98 : a0_4 < (l1.length : Int)
                      · rw [if_pos c98] at H
                        have c98b0 : decide (a0_4 < (l1.length : Int)) = true := decide_eq_true c98
                        clear c98
                        have hai99_ : (x12_1 : Int) = 1 := beq_iff_eq.mp (by first | (with_reducible assumption) | assumption)
                        have p99 : (0 ≤ (x12_1 : Int)) = True := eq_true (by omega)
                        have q99 : ((x12_1 : Int) < 3) = True := eq_true (by omega)
                        have qi99 : True → (x12_1 : Int).toNat = 1 := fun _ => by omega
                        clear hai99_
                        have H' := Aside0.mk H
                        clear H
                        have hnb100 := NB101_102.out
                        have hnc100 := NB102_101.out
                        have hnb101 := NB101_103.out
                        have hnc101 := NB103_101.out
                        have hcz102_0 : wc.cell? ⟨gb101, 0, none⟩ = some (.int .i64 a0_0) := (blk_cell BK101.out 0).trans rfl
                        have hcz102_1 : wc.cell? ⟨gb101, 1, none⟩ = some (.int .i64 a0_1) := (blk_cell BK101.out 1).trans rfl
                        have hcz102_2 : wc.cell? ⟨gb101, 2, none⟩ = some (.int .u64 a0_2) := (blk_cell BK101.out 2).trans rfl
                        have hcz102_3 : wc.cell? ⟨gb101, 3, none⟩ = some (.int .i64 a0_3) := (blk_cell BK101.out 3).trans rfl
                        have hcz102_4 : wc.cell? ⟨gb101, 4, none⟩ = some (.int .i64 a0_4) := (blk_cell BK101.out 4).trans rfl
                        have hcz102_5 : wc.cell? ⟨gb101, 5, none⟩ = some (.int .i64 a0_5) := (blk_cell BK101.out 5).trans rfl
                        have hfz102_0 := blk_frozen BK101.out 0
                        have hfz102_1 := blk_frozen BK101.out 1
                        have hfz102_2 := blk_frozen BK101.out 2
                        have hfz102_3 := blk_frozen BK101.out 3
                        have hfz102_4 := blk_frozen BK101.out 4
                        have hfz102_5 := blk_frozen BK101.out 5
                        have p106 : 0 ≤ (a0_4 : Int) := of_decide_eq_true (by first | (with_reducible assumption) | assumption)
                        have q106 : a0_4 < (l1.length : Int) := of_decide_eq_true (by first | (with_reducible assumption) | assumption)
                        obtain ⟨ad106, e106, hx106_0, hx106_1, hx106_2, hx106_3, hx106_4, hx106_5⟩ := at_T32 HR1.out a0_4 p106 q106
                        cases e106
                        replace hx106_0 := (HB.out.cell (World.block_lt_of_cell? w _ hx106_0)).trans hx106_0
                        replace hx106_1 := (HB.out.cell (World.block_lt_of_cell? w _ hx106_1)).trans hx106_1
                        replace hx106_2 := (HB.out.cell (World.block_lt_of_cell? w _ hx106_2)).trans hx106_2
                        replace hx106_3 := (HB.out.cell (World.block_lt_of_cell? w _ hx106_3)).trans hx106_3
                        replace hx106_4 := (HB.out.cell (World.block_lt_of_cell? w _ hx106_4)).trans hx106_4
                        replace hx106_5 := (HB.out.cell (World.block_lt_of_cell? w _ hx106_5)).trans hx106_5
                        replace p106 := eq_true p106
                        replace q106 := eq_true q106
                        have hnb103 := NB103_102.out
                        have hnc103 := NB102_103.out
                        have hcz104_0 : wc.cell? ⟨gb103, 0, none⟩ = some (.int .i64 x104000_1) := (blk_cell BK103.out 0).trans rfl
                        have hcz104_1 : wc.cell? ⟨gb103, 1, none⟩ = some (.int .i64 x104001_1) := (blk_cell BK103.out 1).trans rfl
                        have hcz104_2 : wc.cell? ⟨gb103, 2, none⟩ = some (.int .i64 x104002_1) := (blk_cell BK103.out 2).trans rfl
                        have hfz104_0 := blk_frozen BK103.out 0
                        have hfz104_1 := blk_frozen BK103.out 1
                        have hfz104_2 := blk_frozen BK103.out 2
                        go_wp2
                        go_roundg kj47
                        case measure => have := HK1.out; have := HJ47.out; omega
                        case rel => exact ⟨(wrap64 (x12_1 + 1)), (x103000_1), (x103001_1), (x103002_1), (x104000_1), ((rd_T32 l1 a0_4).f1), (x104002_1), (by first | rfl | (simp; done) | (simp [*]; done)), H', ⟨by have := HK1.out; have := HJ47.out; omega⟩, ⟨by (with_reducible repeat (first | refine blk_drewN ?_ _ | refine blk_drew ?_ | refine blk_alloc ?_ _)); refine blk_far ?_ NB101_103.out _; (with_reducible repeat (first | refine blk_drewN ?_ _ | refine blk_drew ?_ | refine blk_alloc ?_ _)); exact BK101.out⟩, ⟨by (with_reducible repeat (first | refine blk_drewN ?_ _ | refine blk_drew ?_ | refine blk_alloc ?_ _)); refine blk_far ?_ NB102_103.out _; (with_reducible repeat (first | refine blk_drewN ?_ _ | refine blk_drew ?_ | refine blk_alloc ?_ _)); exact BK102.out⟩, ⟨by (with_reducible repeat (first | refine blk_drewN ?_ _ | refine blk_drew ?_ | refine blk_alloc ?_ _)); refine blk_put (cs := #[.int .i64 x104000_1, .int .i64 x104001_1, .int .i64 x104002_1]) ?_ 1 _ rfl; (with_reducible repeat (first | refine blk_drewN ?_ _ | refine blk_drew ?_ | refine blk_alloc ?_ _)); exact BK103.out⟩, ⟨by repeat (first | (with_reducible first | exact HB.out | apply below_alloc | apply pw_below_drewN | apply below_drew1 | refine below_set ?_ GE101.out | refine below_set ?_ GE102.out | refine below_set ?_ GE103.out) | exact HB.out)⟩⟩
                      · rw [if_neg c98] at H
                        exact absurd H (by simp)
                    · rw [if_neg c97] at H
                      exact absurd H (by simp)
                  · rw [if_neg c95] at H
                    have c95b0 : (x12_1 == 1) = false := beq_eq_false_iff_ne.mpr c95
                    have c95b1 : (x12_1 != 1) = true := bne_iff_ne.mpr c95
                    by_cases c105 : x12_1 = 2
                    · rw [if_pos c105] at H
                      have c105b0 : (x12_1 == 2) = true := beq_iff_eq.mpr c105
                      have c105b1 : (x12_1 != 2) = false := bne_eq_false_iff_eq.mpr c105
                      clear c105
                      have hai106_ : (x12_1 : Int) = 2 := beq_iff_eq.mp (by first | (with_reducible assumption) | assumption)
                      have p106 : (0 ≤ (x12_1 : Int)) = True := eq_true (by omega)
                      have q106 : ((x12_1 : Int) < 3) = True := eq_true (by omega)
                      have qi106 : True → (x12_1 : Int).toNat = 2 := fun _ => by omega
                      clear hai106_
                      by_cases c107 : 0 ≤ a0_5
                      · rw [if_pos c107] at H
                        have c107b0 : decide (0 ≤ a0_5) = true := decide_eq_true c107
                        clear c107
                        by_cases c108 : a0_5 < (l1.length : Int)
                        · rw [if_pos c108] at H
                          have c108b0 : decide (a0_5 < (l1.length : Int)) = true := decide_eq_true c108
                          clear c108
                          have hai109_ : (x12_1 : Int) = 2 := beq_iff_eq.mp (by first | (with_reducible assumption) | assumption)
                          have p109 : (0 ≤ (x12_1 : Int)) = True := eq_true (by omega)
                          have q109 : ((x12_1 : Int) < 3) = True := eq_true (by omega)
                          have qi109 : True → (x12_1 : Int).toNat = 2 := fun _ => by omega
                          clear hai109_
                          have H' := Aside0.mk H
                          clear H
                          have hnb110 := NB101_102.out
                          have hnc110 := NB102_101.out
                          have hnb111 := NB101_103.out
                          have hnc111 := NB103_101.out
                          have hcz112_0 : wc.cell? ⟨gb101, 0, none⟩ = some (.int .i64 a0_0) := (blk_cell BK101.out 0).trans rfl
                          have hcz112_1 : wc.cell? ⟨gb101, 1, none⟩ = some (.int .i64 a0_1) := (blk_cell BK101.out 1).trans rfl
                          have hcz112_2 : wc.cell? ⟨gb101, 2, none⟩ = some (.int .u64 a0_2) := (blk_cell BK101.out 2).trans rfl
                          have hcz112_3 : wc.cell? ⟨gb101, 3, none⟩ = some (.int .i64 a0_3) := (blk_cell BK101.out 3).trans rfl
                          have hcz112_4 : wc.cell? ⟨gb101, 4, none⟩ = some (.int .i64 a0_4) := (blk_cell BK101.out 4).trans rfl
                          have hcz112_5 : wc.cell? ⟨gb101, 5, none⟩ = some (.int .i64 a0_5) := (blk_cell BK101.out 5).trans rfl
                          have hfz112_0 := blk_frozen BK101.out 0
                          have hfz112_1 := blk_frozen BK101.out 1
                          have hfz112_2 := blk_frozen BK101.out 2
                          have hfz112_3 := blk_frozen BK101.out 3
                          have hfz112_4 := blk_frozen BK101.out 4
                          have hfz112_5 := blk_frozen BK101.out 5
                          have p107 : 0 ≤ (a0_5 : Int) := of_decide_eq_true (by first | (with_reducible assumption) | assumption)
                          have q107 : a0_5 < (l1.length : Int) := of_decide_eq_true (by first | (with_reducible assumption) | assumption)
                          obtain ⟨ad107, e107, hx107_0, hx107_1, hx107_2, hx107_3, hx107_4, hx107_5⟩ := at_T32 HR1.out a0_5 p107 q107
                          cases e107
                          replace hx107_0 := (HB.out.cell (World.block_lt_of_cell? w _ hx107_0)).trans hx107_0
                          replace hx107_1 := (HB.out.cell (World.block_lt_of_cell? w _ hx107_1)).trans hx107_1
                          replace hx107_2 := (HB.out.cell (World.block_lt_of_cell? w _ hx107_2)).trans hx107_2
                          replace hx107_3 := (HB.out.cell (World.block_lt_of_cell? w _ hx107_3)).trans hx107_3
                          replace hx107_4 := (HB.out.cell (World.block_lt_of_cell? w _ hx107_4)).trans hx107_4
                          replace hx107_5 := (HB.out.cell (World.block_lt_of_cell? w _ hx107_5)).trans hx107_5
                          replace p107 := eq_true p107
                          replace q107 := eq_true q107
                          have hnb113 := NB103_102.out
                          have hnc113 := NB102_103.out
                          have hcz114_0 : wc.cell? ⟨gb103, 0, none⟩ = some (.int .i64 x104000_1) := (blk_cell BK103.out 0).trans rfl
                          have hcz114_1 : wc.cell? ⟨gb103, 1, none⟩ = some (.int .i64 x104001_1) := (blk_cell BK103.out 1).trans rfl
                          have hcz114_2 : wc.cell? ⟨gb103, 2, none⟩ = some (.int .i64 x104002_1) := (blk_cell BK103.out 2).trans rfl
                          have hfz114_0 := blk_frozen BK103.out 0
                          have hfz114_1 := blk_frozen BK103.out 1
                          have hfz114_2 := blk_frozen BK103.out 2
                          go_wp2
                          go_roundg kj47
                          case measure => have := HK1.out; have := HJ47.out; omega
                          case rel => exact ⟨(wrap64 (x12_1 + 1)), (x103000_1), (x103001_1), (x103002_1), (x104000_1), (x104001_1), ((rd_T32 l1 a0_5).f1), (by first | rfl | (simp; done) | (simp [*]; done)), H', ⟨by have := HK1.out; have := HJ47.out; omega⟩, ⟨by (with_reducible repeat (first | refine blk_drewN ?_ _ | refine blk_drew ?_ | refine blk_alloc ?_ _)); refine blk_far ?_ NB101_103.out _; (with_reducible repeat (first | refine blk_drewN ?_ _ | refine blk_drew ?_ | refine blk_alloc ?_ _)); exact BK101.out⟩, ⟨by (with_reducible repeat (first | refine blk_drewN ?_ _ | refine blk_drew ?_ | refine blk_alloc ?_ _)); refine blk_far ?_ NB102_103.out _; (with_reducible repeat (first | refine blk_drewN ?_ _ | refine blk_drew ?_ | refine blk_alloc ?_ _)); exact BK102.out⟩, ⟨by (with_reducible repeat (first | refine blk_drewN ?_ _ | refine blk_drew ?_ | refine blk_alloc ?_ _)); refine blk_put (cs := #[.int .i64 x104000_1, .int .i64 x104001_1, .int .i64 x104002_1]) ?_ 2 _ rfl; (with_reducible repeat (first | refine blk_drewN ?_ _ | refine blk_drew ?_ | refine blk_alloc ?_ _)); exact BK103.out⟩, ⟨by repeat (first | (with_reducible first | exact HB.out | apply below_alloc | apply pw_below_drewN | apply below_drew1 | refine below_set ?_ GE101.out | refine below_set ?_ GE102.out | refine below_set ?_ GE103.out) | exact HB.out)⟩⟩
                        · rw [if_neg c108] at H
                          exact absurd H (by simp)
                      · rw [if_neg c107] at H
                        exact absurd H (by simp)
                    · rw [if_neg c105] at H
                      exact absurd H (by simp)
      · rw [if_neg c10] at H
        have c10b0 : decide (x12_1 < 3) = false := decide_eq_false c10
        clear c10
        simp only [Option.some.injEq, Prod.mk.injEq] at H
        obtain ⟨rfl, rfl, rfl, rfl⟩ := H
        have hnb115 := NB103_101.out
        have hnc115 := NB101_103.out
        have hnb116 := NB103_102.out
        have hnc116 := NB102_103.out
        have hcz117_0 : wr.cell? ⟨gb103, 0, none⟩ = some (.int .i64 x104000_1) := (blk_cell BK103.out 0).trans rfl
        have hcz117_1 : wr.cell? ⟨gb103, 1, none⟩ = some (.int .i64 x104001_1) := (blk_cell BK103.out 1).trans rfl
        have hcz117_2 : wr.cell? ⟨gb103, 2, none⟩ = some (.int .i64 x104002_1) := (blk_cell BK103.out 2).trans rfl
        have hfz117_0 := blk_frozen BK103.out 0
        have hfz117_1 := blk_frozen BK103.out 1
        have hfz117_2 := blk_frozen BK103.out 2
        have hnb118 := NB102_101.out
        have hnc118 := NB101_102.out
        have hcz119_0 : wr.cell? ⟨gb102, 0, none⟩ = some (.int .i64 x103000_1) := (blk_cell BK102.out 0).trans rfl
        have hcz119_1 : wr.cell? ⟨gb102, 1, none⟩ = some (.int .i64 x103001_1) := (blk_cell BK102.out 1).trans rfl
        have hcz119_2 : wr.cell? ⟨gb102, 2, none⟩ = some (.int .i64 x103002_1) := (blk_cell BK102.out 2).trans rfl
        have hfz119_0 := blk_frozen BK102.out 0
        have hfz119_1 := blk_frozen BK102.out 1
        have hfz119_2 := blk_frozen BK102.out 2
        go_wp2
        refine bodyPost_ret (results_ct rfl _ _ gb102 30 #[.int .i64 x104000_1, .int .i64 x104001_1, .int .i64 x104002_1] (0, 0) _ rfl (by (with_reducible repeat (first | refine blk_drewN ?_ _ | refine blk_drew ?_ | refine blk_alloc ?_ _)); refine blk_put (cs := #[.int .i64 x104000_1, .int .i64 x104001_1, .int .i64 x103002_1]) ?_ 2 _ rfl; (with_reducible repeat (first | refine blk_drewN ?_ _ | refine blk_drew ?_ | refine blk_alloc ?_ _)); refine blk_put (cs := #[.int .i64 x104000_1, .int .i64 x103001_1, .int .i64 x103002_1]) ?_ 1 _ rfl; (with_reducible repeat (first | refine blk_drewN ?_ _ | refine blk_drew ?_ | refine blk_alloc ?_ _)); refine blk_put (cs := #[.int .i64 x103000_1, .int .i64 x103001_1, .int .i64 x103002_1]) ?_ 0 _ rfl; (with_reducible repeat (first | refine blk_drewN ?_ _ | refine blk_drew ?_ | refine blk_alloc ?_ _)); exact BK102.out) Try.underlying30 rfl (by kernel_rfl)) rfl ?_
        exact ⟨by first | rfl | (simp [errW_none, errW_some] <;> rfl) | (simp [*, errW_none, errW_some] <;> rfl), by repeat (first | (with_reducible first | exact HB.out | apply below_alloc | apply pw_below_drewN | apply below_drew1 | refine below_set ?_ GE101.out | refine below_set ?_ GE102.out | refine below_set ?_ GE103.out) | exact HB.out)⟩

end Go.Proofs.Ytkindfbbklkjdaa.P
