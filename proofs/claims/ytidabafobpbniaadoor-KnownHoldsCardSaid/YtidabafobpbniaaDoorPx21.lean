/- What Go functions compute, and their walks: written by a program of this session (a turned copy of the kit's print) out of the translation. -/
import Derived.Test.YtidabafobpbniaaDoorPx0
import Derived.Test.YtidabafobpbniaaDoorPx18
namespace Go.Proofs.YtidabafobpbniaaDoor.P
open Go.RowKit Go.Proofs.YtidabafobpbniaaDoorW.PrintWords Go.Proofs.YtidabafobpbniaaDoorW.PrintLast Go.Proofs.YtidabafobpbniaaDoorW.PrintMore
attribute [local go_sem] max2_int min2_int max_two min_two max_three min_three max_four min_four   -- for this text's walks alone
set_option linter.unusedVariables false
set_option linter.unusedSimpArgs false

/-! ### known_wide_sign: function 86 -/
def known_wide_sign.f (a0_0 : Int) (a0_1 : Int) (a0_2 : Int) (a1 : Int) : Option (Int × Int) := if 0 ≤ (wrap64 (a0_2 - 1)) then (if 0 ≤ a1 then (if (Go.bits .and .u64 a0_0 (shl .u64 1 (wrap64 (a0_2 - 1)))) = 0 then (if (Go.bits .and .u64 a0_1 (shl .u64 1 (wrap64 (a0_2 - 1)))) = 0 then (some (shr .u64 a0_0 a1, shr .u64 a0_1 a1)) else ((known_wide_in.f a0_0 a0_1 a0_2 a1).bind fun t272 => (some (shr .u64 a0_0 a1, Go.bits .or .u64 (shr .u64 a0_1 a1) t272)))) else ((known_wide_in.f a0_0 a0_1 a0_2 a1).bind fun t273 => (some (Go.bits .or .u64 (shr .u64 a0_0 a1) t273, shr .u64 a0_1 a1)))) else (none)) else (none)
def known_wide_sign.T4 : Bool × List (List Nat × List Nat) := (true, [([], []), ([0], [0]), ([], []), ([], []), ([2, 3], [2, 3]), ([1, 4], [1, 4]), ([0, 1, 2, 3, 4, 5], []), ([6, 5, 4, 0, 1, 2, 3, 4, 5], [5, 6])])
def known_wide_sign.B4 : List Nat := [0, 1, 0, 0, 12, 31, 63, 127]
theorem known_wide_sign.tab4 : rtab .any (opsOf Tryd.f86 4) = known_wide_sign.T4 := by kernel_rfl
theorem known_wide_sign.bits4 : waitsOk known_wide_sign.T4.2 known_wide_sign.B4 = true := by kernel_rfl
def known_wide_sign.T6 : Bool × List (List Nat × List Nat) := (true, [([], []), ([0], [0]), ([], []), ([], []), ([2, 3], [2, 3]), ([1, 4], [1, 4]), ([0, 1, 2, 3, 4, 5], []), ([6, 5, 4, 0, 1, 2, 3, 4, 5], [5, 6])])
def known_wide_sign.B6 : List Nat := [0, 1, 0, 0, 12, 31, 63, 127]
theorem known_wide_sign.tab6 : rtab .any (opsOf Tryd.f86 6) = known_wide_sign.T6 := by kernel_rfl
theorem known_wide_sign.bits6 : waitsOk known_wide_sign.T6.2 known_wide_sign.B6 = true := by kernel_rfl
set_option maxHeartbeats 8000000 in
set_option maxRecDepth 100000 in
theorem known_wide_sign.calls (a0_0 : Int) (a0_1 : Int) (a0_2 : Int) (a1 : Int) (r1 : Int) (r2 : Int) (w : World) (h : known_wide_sign.f a0_0 a0_1 a0_2 a1 = some (r1, r2)) :
    Calls Tryd.prog 86 #[.agg #[.int .u64 a0_0, .int .u64 a0_1, .int .i64 a0_2], .int .u64 a1] w fun e w' => e = .returned (.agg #[.int .u64 r1, .int .u64 r2]) ∧ Below w.heap.size w w' := by
  have hu73 := Tryd.underlying73
  have hu24 := Tryd.underlying24
  have HB := Aside0.mk (Below.refl w.heap.size w)
  have H : (if 0 ≤ (wrap64 (a0_2 - 1)) then (if 0 ≤ a1 then (if (Go.bits .and .u64 a0_0 (shl .u64 1 (wrap64 (a0_2 - 1)))) = 0 then (if (Go.bits .and .u64 a0_1 (shl .u64 1 (wrap64 (a0_2 - 1)))) = 0 then (some (shr .u64 a0_0 a1, shr .u64 a0_1 a1)) else ((known_wide_in.f a0_0 a0_1 a0_2 a1).bind fun t272 => (some (shr .u64 a0_0 a1, Go.bits .or .u64 (shr .u64 a0_1 a1) t272)))) else ((known_wide_in.f a0_0 a0_1 a0_2 a1).bind fun t273 => (some (Go.bits .or .u64 (shr .u64 a0_0 a1) t273, shr .u64 a0_1 a1)))) else (none)) else (none)) = some (r1, r2) := h
  clear h
  obtain ⟨ji3, hji3⟩ : ∃ j_ : Int, (wrap64 (a0_2 - 1)) = j_ := ⟨_, rfl⟩
  replace H : (if 0 ≤ (ji3) then (if 0 ≤ a1 then (if (Go.bits .and .u64 a0_0 (shl .u64 1 (ji3))) = 0 then (if (Go.bits .and .u64 a0_1 (shl .u64 1 (ji3))) = 0 then (some (shr .u64 a0_0 a1, shr .u64 a0_1 a1)) else ((known_wide_in.f a0_0 a0_1 a0_2 a1).bind fun t272 => (some (shr .u64 a0_0 a1, Go.bits .or .u64 (shr .u64 a0_1 a1) t272)))) else ((known_wide_in.f a0_0 a0_1 a0_2 a1).bind fun t273 => (some (Go.bits .or .u64 (shr .u64 a0_0 a1) t273, shr .u64 a0_1 a1)))) else (none)) else (none)) = some (r1, r2) := by first | (rw [hji3] at H; exact H) | (simp only [hji3] at H ⊢; exact H)
  have hji3w : (IntKind.i64.wrap (a0_2 - 1)) = ji3 := (i64_w _).trans hji3
  by_cases c4 : 0 ≤ (ji3)
  · rw [if_pos c4] at H
    have c4b0 := eq_true c4
    have c4b1 : decide (0 ≤ (ji3)) = true := decide_eq_true c4
    clear c4
    obtain ⟨ji5, hji5⟩ : ∃ j_ : Int, (shl .u64 1 (ji3)) = j_ := ⟨_, rfl⟩
    replace H : (if 0 ≤ a1 then (if (Go.bits .and .u64 a0_0 (ji5)) = 0 then (if (Go.bits .and .u64 a0_1 (ji5)) = 0 then (some (shr .u64 a0_0 a1, shr .u64 a0_1 a1)) else ((known_wide_in.f a0_0 a0_1 a0_2 a1).bind fun t272 => (some (shr .u64 a0_0 a1, Go.bits .or .u64 (shr .u64 a0_1 a1) t272)))) else ((known_wide_in.f a0_0 a0_1 a0_2 a1).bind fun t273 => (some (Go.bits .or .u64 (shr .u64 a0_0 a1) t273, shr .u64 a0_1 a1)))) else (none)) = some (r1, r2) := by first | (rw [hji5] at H; exact H) | (simp only [hji5] at H ⊢; exact H)
    have hji5_ : (IntKind.u64.wrap (1 * 2 ^ min (ji3).toNat 64)) = ji5 := hji5
    have hji5z : (ji3) ≤ 64 → (IntKind.u64.wrap (1 * 2 ^ (ji3).toNat)) = ji5 := shl_small hji5
    have hji5u : (IntKind.u64.wrap (2 ^ min (ji3).toNat 64)) = ji5 := by have h_ := hji5_; rw [Int.one_mul] at h_; exact h_
    have hji5v : (ji3) ≤ 64 → (IntKind.u64.wrap (2 ^ (ji3).toNat)) = ji5 := fun hle_ => by have h_ := hji5z hle_; rw [Int.one_mul] at h_; exact h_
    by_cases c6 : 0 ≤ a1
    · rw [if_pos c6] at H
      have c6b0 := eq_true c6
      have c6b1 : decide (0 ≤ a1) = true := decide_eq_true c6
      clear c6
      obtain ⟨ji7, hji7⟩ : ∃ j_ : Int, (shr .u64 a0_0 a1) = j_ := ⟨_, rfl⟩
      replace H : (if (Go.bits .and .u64 a0_0 (ji5)) = 0 then (if (Go.bits .and .u64 a0_1 (ji5)) = 0 then (some (ji7, shr .u64 a0_1 a1)) else ((known_wide_in.f a0_0 a0_1 a0_2 a1).bind fun t272 => (some (ji7, Go.bits .or .u64 (shr .u64 a0_1 a1) t272)))) else ((known_wide_in.f a0_0 a0_1 a0_2 a1).bind fun t273 => (some (Go.bits .or .u64 (ji7) t273, shr .u64 a0_1 a1)))) = some (r1, r2) := by first | (rw [hji7] at H; exact H) | (simp only [hji7] at H ⊢; exact H)
      have hji7_ : (a0_0 / 2 ^ min a1.toNat 64) = ji7 := hji7
      have hji7z : a1 ≤ 64 → (a0_0 / 2 ^ a1.toNat) = ji7 := shr_small hji7
      have c8b0 := eq_true (of_decide_eq_true (by first | (with_reducible assumption) | assumption) : 0 ≤ a1)
      obtain ⟨ji9, hji9⟩ : ∃ j_ : Int, (shr .u64 a0_1 a1) = j_ := ⟨_, rfl⟩
      replace H : (if (Go.bits .and .u64 a0_0 (ji5)) = 0 then (if (Go.bits .and .u64 a0_1 (ji5)) = 0 then (some (ji7, ji9)) else ((known_wide_in.f a0_0 a0_1 a0_2 a1).bind fun t272 => (some (ji7, Go.bits .or .u64 (ji9) t272)))) else ((known_wide_in.f a0_0 a0_1 a0_2 a1).bind fun t273 => (some (Go.bits .or .u64 (ji7) t273, ji9)))) = some (r1, r2) := by first | (rw [hji9] at H; exact H) | (simp only [hji9] at H ⊢; exact H)
      have hji9_ : (a0_1 / 2 ^ min a1.toNat 64) = ji9 := hji9
      have hji9z : a1 ≤ 64 → (a0_1 / 2 ^ a1.toNat) = ji9 := shr_small hji9
      by_cases c10 : (Go.bits .and .u64 a0_0 (ji5)) = 0
      · rw [if_pos c10] at H
        have c10b0 : ((Go.bits .and .u64 a0_0 (ji5)) == 0) = true := beq_iff_eq.mpr c10
        have c10b1 : ((Go.bits .and .u64 a0_0 (ji5)) != 0) = false := bne_eq_false_iff_eq.mpr c10
        clear c10
        by_cases c11 : (Go.bits .and .u64 a0_1 (ji5)) = 0
        · rw [if_pos c11] at H
          have c11b0 : ((Go.bits .and .u64 a0_1 (ji5)) == 0) = true := beq_iff_eq.mpr c11
          have c11b1 : ((Go.bits .and .u64 a0_1 (ji5)) != 0) = false := bne_eq_false_iff_eq.mpr c11
          clear c11
          simp only [Option.some.injEq, Prod.mk.injEq] at H
          obtain ⟨rfl, rfl⟩ := H
          go_enter Tryd.func86, Tryd.ntmps86
          go_wp2_with (first | ((with_reducible refine gate_dst (N := 2) rfl ?_); refine box_event ?hg (N := 2) ?hd (cs := #[.int .u64 a0_0, .int .u64 a0_1, .int .i64 a0_2]) (t := 73) ?hr ?_; (case hd => rfl); (case hg => rfl); (case hr => first | (go_simp; done) | (go_simp; rfl)); intro gb269 hg w12 hbox hb; have n0_ := Aside0.mk (below_step (by repeat (first | (with_reducible first | exact HB.out | apply below_alloc | apply pw_below_drewN | apply below_drew1) | exact HB.out)) hb); have n1_ := Aside0.mk (hbox); have n2_ := Aside0.mk ((by rw [hg]; exact (below_size (by repeat (first | (with_reducible first | exact HB.out | apply below_alloc | apply pw_below_drewN | apply below_drew1) | exact HB.out))) : w.heap.size ≤ gb269)); have n3_ := Aside0.mk ((by rw [hg]; exact (below_size (by repeat (first | (with_reducible first | exact HB.out | apply below_alloc | apply pw_below_drewN | apply below_drew1) | exact HB.out))) : w.heap.size ≤ gb269)); clear HB; have HB := n0_; have BK269 := n1_; have GW269 := n2_; have GE269 := n3_; clear n0_ n1_ n2_ n3_; clear hb hbox hg) | ((with_reducible refine gate_dst (N := 4) rfl ?_); refine box_event ?hg (N := 4) ?hd (cs := #[.int .u64 0, .int .u64 0]) (t := 24) ?hr ?_; (case hd => rfl); (case hg => rfl); (case hr => first | (go_simp; done) | (go_simp; rfl)); intro gb270 hg w13 hbox hb; have n0_ := Aside0.mk (blk_below (g := gb269) (o := .cells #[.int .u64 a0_0, .int .u64 a0_1, .int .i64 a0_2] 73 (0, 0)) (by (with_reducible repeat (first | refine blk_drewN ?_ _ | refine blk_drew ?_ | refine blk_alloc ?_ _)); exact BK269.out) hb); have n1_ := Aside0.mk (below_step (by repeat (first | (with_reducible first | exact HB.out | apply below_alloc | apply pw_below_drewN | apply below_drew1 | refine below_set ?_ GE269.out) | exact HB.out)) hb); have n2_ := Aside0.mk (hbox); have n3_ := Aside0.mk ((by rw [hg]; exact (below_size (by repeat (first | (with_reducible first | exact HB.out | apply below_alloc | apply pw_below_drewN | apply below_drew1 | refine below_set ?_ GE269.out) | exact HB.out))) : w.heap.size ≤ gb270)); have n4_ := Aside0.mk ((by rw [hg]; exact (below_size (by repeat (first | (with_reducible first | exact HB.out | apply below_alloc | apply pw_below_drewN | apply below_drew1 | refine below_set ?_ GE269.out) | exact HB.out))) : w.heap.size ≤ gb270)); have n5_ := Aside0.mk ((by rw [hg]; exact Nat.ne_of_lt (blk_lt (g := gb269) (o := .cells #[.int .u64 a0_0, .int .u64 a0_1, .int .i64 a0_2] 73 (0, 0)) (by (with_reducible repeat (first | refine blk_drewN ?_ _ | refine blk_drew ?_ | refine blk_alloc ?_ _)); exact BK269.out)) : gb269 ≠ gb270)); have n6_ := Aside0.mk ((by rw [hg]; exact Nat.ne_of_gt (blk_lt (g := gb269) (o := .cells #[.int .u64 a0_0, .int .u64 a0_1, .int .i64 a0_2] 73 (0, 0)) (by (with_reducible repeat (first | refine blk_drewN ?_ _ | refine blk_drew ?_ | refine blk_alloc ?_ _)); exact BK269.out)) : gb270 ≠ gb269)); clear BK269; clear HB; have BK269 := n0_; have HB := n1_; have BK270 := n2_; have GW270 := n3_; have GE270 := n4_; have NB269_270 := n5_; have NB270_269 := n6_; clear n0_ n1_ n2_ n3_ n4_ n5_ n6_; clear hb hbox hg; have hnb14 := NB269_270.out; have hnc14 := NB270_269.out; have hcz15_0 : w13.cell? ⟨gb269, 0, none⟩ = some (.int .u64 a0_0) := (blk_cell BK269.out 0).trans rfl; have hcz15_1 : w13.cell? ⟨gb269, 1, none⟩ = some (.int .u64 a0_1) := (blk_cell BK269.out 1).trans rfl; have hcz15_2 : w13.cell? ⟨gb269, 2, none⟩ = some (.int .i64 a0_2) := (blk_cell BK269.out 2).trans rfl; have hfz15_0 := blk_frozen BK269.out 0; have hfz15_1 := blk_frozen BK269.out 1; have hfz15_2 := blk_frozen BK269.out 2) | ((with_reducible refine gate_dst (N := 6) rfl ?_); refine box_event ?hg (N := 6) ?hd (cs := #[.int .u64 0, .int .u64 0]) (t := 24) ?hr ?_; (case hd => rfl); (case hg => rfl); (case hr => first | (go_simp; done) | (go_simp; rfl)); intro gb271 hg w16 hbox hb; have n0_ := Aside0.mk (blk_below (g := gb269) (o := .cells #[.int .u64 a0_0, .int .u64 a0_1, .int .i64 a0_2] 73 (0, 0)) (by (with_reducible repeat (first | refine blk_drewN ?_ _ | refine blk_drew ?_ | refine blk_alloc ?_ _)); exact BK269.out) hb); have n1_ := Aside0.mk (blk_below (g := gb270) (o := .cells #[.int .u64 0, .int .u64 0] 24 (0, 0)) (by (with_reducible repeat (first | refine blk_drewN ?_ _ | refine blk_drew ?_ | refine blk_alloc ?_ _)); exact BK270.out) hb); have n2_ := Aside0.mk (below_step (by repeat (first | (with_reducible first | exact HB.out | apply below_alloc | apply pw_below_drewN | apply below_drew1 | refine below_set ?_ GE269.out | refine below_set ?_ GE270.out) | exact HB.out)) hb); have n3_ := Aside0.mk (hbox); have n4_ := Aside0.mk ((by rw [hg]; exact (below_size (by repeat (first | (with_reducible first | exact HB.out | apply below_alloc | apply pw_below_drewN | apply below_drew1 | refine below_set ?_ GE269.out | refine below_set ?_ GE270.out) | exact HB.out))) : w.heap.size ≤ gb271)); have n5_ := Aside0.mk ((by rw [hg]; exact (below_size (by repeat (first | (with_reducible first | exact HB.out | apply below_alloc | apply pw_below_drewN | apply below_drew1 | refine below_set ?_ GE269.out | refine below_set ?_ GE270.out) | exact HB.out))) : w.heap.size ≤ gb271)); have n6_ := Aside0.mk ((by rw [hg]; exact Nat.ne_of_lt (blk_lt (g := gb269) (o := .cells #[.int .u64 a0_0, .int .u64 a0_1, .int .i64 a0_2] 73 (0, 0)) (by (with_reducible repeat (first | refine blk_drewN ?_ _ | refine blk_drew ?_ | refine blk_alloc ?_ _)); exact BK269.out)) : gb269 ≠ gb271)); have n7_ := Aside0.mk ((by rw [hg]; exact Nat.ne_of_gt (blk_lt (g := gb269) (o := .cells #[.int .u64 a0_0, .int .u64 a0_1, .int .i64 a0_2] 73 (0, 0)) (by (with_reducible repeat (first | refine blk_drewN ?_ _ | refine blk_drew ?_ | refine blk_alloc ?_ _)); exact BK269.out)) : gb271 ≠ gb269)); have n8_ := Aside0.mk ((by rw [hg]; exact Nat.ne_of_lt (blk_lt (g := gb270) (o := .cells #[.int .u64 0, .int .u64 0] 24 (0, 0)) (by (with_reducible repeat (first | refine blk_drewN ?_ _ | refine blk_drew ?_ | refine blk_alloc ?_ _)); exact BK270.out)) : gb270 ≠ gb271)); have n9_ := Aside0.mk ((by rw [hg]; exact Nat.ne_of_gt (blk_lt (g := gb270) (o := .cells #[.int .u64 0, .int .u64 0] 24 (0, 0)) (by (with_reducible repeat (first | refine blk_drewN ?_ _ | refine blk_drew ?_ | refine blk_alloc ?_ _)); exact BK270.out)) : gb271 ≠ gb270)); clear BK269; clear BK270; clear HB; have BK269 := n0_; have BK270 := n1_; have HB := n2_; have BK271 := n3_; have GW271 := n4_; have GE271 := n5_; have NB269_271 := n6_; have NB271_269 := n7_; have NB270_271 := n8_; have NB271_270 := n9_; clear n0_ n1_ n2_ n3_ n4_ n5_ n6_ n7_ n8_ n9_; clear hb hbox hg; have hnb17 := NB271_269.out; have hnc17 := NB269_271.out; have hnb18 := NB271_270.out; have hnc18 := NB270_271.out; have hcz19_0 : w16.cell? ⟨gb271, 0, none⟩ = some (.int .u64 0) := (blk_cell BK271.out 0).trans rfl; have hcz19_1 : w16.cell? ⟨gb271, 1, none⟩ = some (.int .u64 0) := (blk_cell BK271.out 1).trans rfl; have hfz19_0 := blk_frozen BK271.out 0; have hfz19_1 := blk_frozen BK271.out 1; have hcz20_0 : w16.cell? ⟨gb269, 0, none⟩ = some (.int .u64 a0_0) := (blk_cell BK269.out 0).trans rfl; have hcz20_1 : w16.cell? ⟨gb269, 1, none⟩ = some (.int .u64 a0_1) := (blk_cell BK269.out 1).trans rfl; have hcz20_2 : w16.cell? ⟨gb269, 2, none⟩ = some (.int .i64 a0_2) := (blk_cell BK269.out 2).trans rfl; have hfz20_0 := blk_frozen BK269.out 0; have hfz20_1 := blk_frozen BK269.out 1; have hfz20_2 := blk_frozen BK269.out 2; have hcz21_0 : w16.cell? ⟨gb270, 0, none⟩ = some (.int .u64 0) := (blk_cell BK270.out 0).trans rfl; have hcz21_1 : w16.cell? ⟨gb270, 1, none⟩ = some (.int .u64 0) := (blk_cell BK270.out 1).trans rfl; have hfz21_0 := blk_frozen BK270.out 0; have hfz21_1 := blk_frozen BK270.out 1))
          refine bodyPost_ret (results_cell_row rfl _ _ gb270 24 #[.int .u64 ji7, .int .u64 ji9] (0, 0) _ rfl (by (with_reducible repeat (first | refine blk_drewN ?_ _ | refine blk_drew ?_ | refine blk_alloc ?_ _)); refine blk_put (cs := #[.int .u64 ji7, .int .u64 0]) ?_ 1 _ rfl; (with_reducible repeat (first | refine blk_drewN ?_ _ | refine blk_drew ?_ | refine blk_alloc ?_ _)); refine blk_put (cs := #[.int .u64 0, .int .u64 0]) ?_ 0 _ rfl; (with_reducible repeat (first | refine blk_drewN ?_ _ | refine blk_drew ?_ | refine blk_alloc ?_ _)); refine blk_far ?_ NB270_271.out _; (with_reducible repeat (first | refine blk_drewN ?_ _ | refine blk_drew ?_ | refine blk_alloc ?_ _)); refine blk_far ?_ NB270_271.out _; (with_reducible repeat (first | refine blk_drewN ?_ _ | refine blk_drew ?_ | refine blk_alloc ?_ _)); exact BK270.out) Tryd.underlying24 rfl (by kernel_rfl)) rfl ?_
          exact ⟨by first | rfl | (simp [errW_none, errW_some] <;> rfl) | (simp only [← hji3, ← hji5, ← hji7, ← hji9]; first | rfl | (simp [errW_none, errW_some] <;> rfl)) | (simp [*, errW_none, errW_some] <;> rfl), by repeat (first | (with_reducible first | exact HB.out | apply below_alloc | apply pw_below_drewN | apply below_drew1 | refine below_set ?_ GE269.out | refine below_set ?_ GE270.out | refine below_set ?_ GE271.out) | exact HB.out)⟩
        · rw [if_neg c11] at H
          have c11b0 : ((Go.bits .and .u64 a0_1 (ji5)) == 0) = false := beq_eq_false_iff_ne.mpr c11
          have c11b1 : ((Go.bits .and .u64 a0_1 (ji5)) != 0) = true := bne_iff_ne.mpr c11
          replace H := Option.bind_eq_some_iff.mp H
          obtain ⟨t272, A220, H⟩ := H
          replace H : (some (ji7, Go.bits .or .u64 (ji9) t272)) = some (r1, r2) := H
          have A22 := Aside0.mk A220
          clear A220
          simp only [Option.some.injEq, Prod.mk.injEq] at H
          obtain ⟨rfl, rfl⟩ := H
          go_enter Tryd.func86, Tryd.ntmps86
          try go_wp2_with (first | ((with_reducible refine gate_dst (N := 2) rfl ?_); refine box_event ?hg (N := 2) ?hd (cs := #[.int .u64 a0_0, .int .u64 a0_1, .int .i64 a0_2]) (t := 73) ?hr ?_; (case hd => rfl); (case hg => rfl); (case hr => first | (go_simp; done) | (go_simp; rfl)); intro gb269 hg w23 hbox hb; have n0_ := Aside0.mk (below_step (by repeat (first | (with_reducible first | exact HB.out | apply below_alloc | apply pw_below_drewN | apply below_drew1) | exact HB.out)) hb); have n1_ := Aside0.mk (hbox); have n2_ := Aside0.mk ((by rw [hg]; exact (below_size (by repeat (first | (with_reducible first | exact HB.out | apply below_alloc | apply pw_below_drewN | apply below_drew1) | exact HB.out))) : w.heap.size ≤ gb269)); have n3_ := Aside0.mk ((by rw [hg]; exact (below_size (by repeat (first | (with_reducible first | exact HB.out | apply below_alloc | apply pw_below_drewN | apply below_drew1) | exact HB.out))) : w.heap.size ≤ gb269)); clear HB; have HB := n0_; have BK269 := n1_; have GW269 := n2_; have GE269 := n3_; clear n0_ n1_ n2_ n3_; clear hb hbox hg) | ((with_reducible refine gate_dst (N := 4) rfl ?_); refine box_event ?hg (N := 4) ?hd (cs := #[.int .u64 0, .int .u64 0]) (t := 24) ?hr ?_; (case hd => rfl); (case hg => rfl); (case hr => first | (go_simp; done) | (go_simp; rfl)); intro gb270 hg w24 hbox hb; have n0_ := Aside0.mk (blk_below (g := gb269) (o := .cells #[.int .u64 a0_0, .int .u64 a0_1, .int .i64 a0_2] 73 (0, 0)) (by (with_reducible repeat (first | refine blk_drewN ?_ _ | refine blk_drew ?_ | refine blk_alloc ?_ _)); exact BK269.out) hb); have n1_ := Aside0.mk (below_step (by repeat (first | (with_reducible first | exact HB.out | apply below_alloc | apply pw_below_drewN | apply below_drew1 | refine below_set ?_ GE269.out) | exact HB.out)) hb); have n2_ := Aside0.mk (hbox); have n3_ := Aside0.mk ((by rw [hg]; exact (below_size (by repeat (first | (with_reducible first | exact HB.out | apply below_alloc | apply pw_below_drewN | apply below_drew1 | refine below_set ?_ GE269.out) | exact HB.out))) : w.heap.size ≤ gb270)); have n4_ := Aside0.mk ((by rw [hg]; exact (below_size (by repeat (first | (with_reducible first | exact HB.out | apply below_alloc | apply pw_below_drewN | apply below_drew1 | refine below_set ?_ GE269.out) | exact HB.out))) : w.heap.size ≤ gb270)); have n5_ := Aside0.mk ((by rw [hg]; exact Nat.ne_of_lt (blk_lt (g := gb269) (o := .cells #[.int .u64 a0_0, .int .u64 a0_1, .int .i64 a0_2] 73 (0, 0)) (by (with_reducible repeat (first | refine blk_drewN ?_ _ | refine blk_drew ?_ | refine blk_alloc ?_ _)); exact BK269.out)) : gb269 ≠ gb270)); have n6_ := Aside0.mk ((by rw [hg]; exact Nat.ne_of_gt (blk_lt (g := gb269) (o := .cells #[.int .u64 a0_0, .int .u64 a0_1, .int .i64 a0_2] 73 (0, 0)) (by (with_reducible repeat (first | refine blk_drewN ?_ _ | refine blk_drew ?_ | refine blk_alloc ?_ _)); exact BK269.out)) : gb270 ≠ gb269)); clear BK269; clear HB; have BK269 := n0_; have HB := n1_; have BK270 := n2_; have GW270 := n3_; have GE270 := n4_; have NB269_270 := n5_; have NB270_269 := n6_; clear n0_ n1_ n2_ n3_ n4_ n5_ n6_; clear hb hbox hg; have hnb25 := NB269_270.out; have hnc25 := NB270_269.out; have hcz26_0 : w24.cell? ⟨gb269, 0, none⟩ = some (.int .u64 a0_0) := (blk_cell BK269.out 0).trans rfl; have hcz26_1 : w24.cell? ⟨gb269, 1, none⟩ = some (.int .u64 a0_1) := (blk_cell BK269.out 1).trans rfl; have hcz26_2 : w24.cell? ⟨gb269, 2, none⟩ = some (.int .i64 a0_2) := (blk_cell BK269.out 2).trans rfl; have hfz26_0 := blk_frozen BK269.out 0; have hfz26_1 := blk_frozen BK269.out 1; have hfz26_2 := blk_frozen BK269.out 2) | ((with_reducible refine gate_dst (N := 6) rfl ?_); refine box_event ?hg (N := 6) ?hd (cs := #[.int .u64 0, .int .u64 0]) (t := 24) ?hr ?_; (case hd => rfl); (case hg => rfl); (case hr => first | (go_simp; done) | (go_simp; rfl)); intro gb271 hg w27 hbox hb; have n0_ := Aside0.mk (blk_below (g := gb269) (o := .cells #[.int .u64 a0_0, .int .u64 a0_1, .int .i64 a0_2] 73 (0, 0)) (by (with_reducible repeat (first | refine blk_drewN ?_ _ | refine blk_drew ?_ | refine blk_alloc ?_ _)); exact BK269.out) hb); have n1_ := Aside0.mk (blk_below (g := gb270) (o := .cells #[.int .u64 0, .int .u64 0] 24 (0, 0)) (by (with_reducible repeat (first | refine blk_drewN ?_ _ | refine blk_drew ?_ | refine blk_alloc ?_ _)); exact BK270.out) hb); have n2_ := Aside0.mk (below_step (by repeat (first | (with_reducible first | exact HB.out | apply below_alloc | apply pw_below_drewN | apply below_drew1 | refine below_set ?_ GE269.out | refine below_set ?_ GE270.out) | exact HB.out)) hb); have n3_ := Aside0.mk (hbox); have n4_ := Aside0.mk ((by rw [hg]; exact (below_size (by repeat (first | (with_reducible first | exact HB.out | apply below_alloc | apply pw_below_drewN | apply below_drew1 | refine below_set ?_ GE269.out | refine below_set ?_ GE270.out) | exact HB.out))) : w.heap.size ≤ gb271)); have n5_ := Aside0.mk ((by rw [hg]; exact (below_size (by repeat (first | (with_reducible first | exact HB.out | apply below_alloc | apply pw_below_drewN | apply below_drew1 | refine below_set ?_ GE269.out | refine below_set ?_ GE270.out) | exact HB.out))) : w.heap.size ≤ gb271)); have n6_ := Aside0.mk ((by rw [hg]; exact Nat.ne_of_lt (blk_lt (g := gb269) (o := .cells #[.int .u64 a0_0, .int .u64 a0_1, .int .i64 a0_2] 73 (0, 0)) (by (with_reducible repeat (first | refine blk_drewN ?_ _ | refine blk_drew ?_ | refine blk_alloc ?_ _)); exact BK269.out)) : gb269 ≠ gb271)); have n7_ := Aside0.mk ((by rw [hg]; exact Nat.ne_of_gt (blk_lt (g := gb269) (o := .cells #[.int .u64 a0_0, .int .u64 a0_1, .int .i64 a0_2] 73 (0, 0)) (by (with_reducible repeat (first | refine blk_drewN ?_ _ | refine blk_drew ?_ | refine blk_alloc ?_ _)); exact BK269.out)) : gb271 ≠ gb269)); have n8_ := Aside0.mk ((by rw [hg]; exact Nat.ne_of_lt (blk_lt (g := gb270) (o := .cells #[.int .u64 0, .int .u64 0] 24 (0, 0)) (by (with_reducible repeat (first | refine blk_drewN ?_ _ | refine blk_drew ?_ | refine blk_alloc ?_ _)); exact BK270.out)) : gb270 ≠ gb271)); have n9_ := Aside0.mk ((by rw [hg]; exact Nat.ne_of_gt (blk_lt (g := gb270) (o := .cells #[.int .u64 0, .int .u64 0] 24 (0, 0)) (by (with_reducible repeat (first | refine blk_drewN ?_ _ | refine blk_drew ?_ | refine blk_alloc ?_ _)); exact BK270.out)) : gb271 ≠ gb270)); clear BK269; clear BK270; clear HB; have BK269 := n0_; have BK270 := n1_; have HB := n2_; have BK271 := n3_; have GW271 := n4_; have GE271 := n5_; have NB269_271 := n6_; have NB271_269 := n7_; have NB270_271 := n8_; have NB271_270 := n9_; clear n0_ n1_ n2_ n3_ n4_ n5_ n6_ n7_ n8_ n9_; clear hb hbox hg; have hnb28 := NB271_269.out; have hnc28 := NB269_271.out; have hnb29 := NB271_270.out; have hnc29 := NB270_271.out; have hcz30_0 : w27.cell? ⟨gb271, 0, none⟩ = some (.int .u64 0) := (blk_cell BK271.out 0).trans rfl; have hcz30_1 : w27.cell? ⟨gb271, 1, none⟩ = some (.int .u64 0) := (blk_cell BK271.out 1).trans rfl; have hfz30_0 := blk_frozen BK271.out 0; have hfz30_1 := blk_frozen BK271.out 1; have hcz31_0 : w27.cell? ⟨gb269, 0, none⟩ = some (.int .u64 a0_0) := (blk_cell BK269.out 0).trans rfl; have hcz31_1 : w27.cell? ⟨gb269, 1, none⟩ = some (.int .u64 a0_1) := (blk_cell BK269.out 1).trans rfl; have hcz31_2 : w27.cell? ⟨gb269, 2, none⟩ = some (.int .i64 a0_2) := (blk_cell BK269.out 2).trans rfl; have hfz31_0 := blk_frozen BK269.out 0; have hfz31_1 := blk_frozen BK269.out 1; have hfz31_2 := blk_frozen BK269.out 2))
          have n0_ : Aside0 (((w27.setCell ⟨gb271, 0, none⟩ (.int .u64 ji7)).setCell ⟨gb271, 1, none⟩ (.int .u64 ji9)).heap[gb269]? = some (.cells #[.int .u64 a0_0, .int .u64 a0_1, .int .i64 a0_2] 73 (0, 0))) := ⟨by (with_reducible repeat (first | refine blk_drewN ?_ _ | refine blk_drew ?_ | refine blk_alloc ?_ _)); refine blk_far ?_ NB269_271.out _; (with_reducible repeat (first | refine blk_drewN ?_ _ | refine blk_drew ?_ | refine blk_alloc ?_ _)); refine blk_far ?_ NB269_271.out _; (with_reducible repeat (first | refine blk_drewN ?_ _ | refine blk_drew ?_ | refine blk_alloc ?_ _)); exact BK269.out⟩
          have n1_ : Aside0 (((w27.setCell ⟨gb271, 0, none⟩ (.int .u64 ji7)).setCell ⟨gb271, 1, none⟩ (.int .u64 ji9)).heap[gb270]? = some (.cells #[.int .u64 0, .int .u64 0] 24 (0, 0))) := ⟨by (with_reducible repeat (first | refine blk_drewN ?_ _ | refine blk_drew ?_ | refine blk_alloc ?_ _)); refine blk_far ?_ NB270_271.out _; (with_reducible repeat (first | refine blk_drewN ?_ _ | refine blk_drew ?_ | refine blk_alloc ?_ _)); refine blk_far ?_ NB270_271.out _; (with_reducible repeat (first | refine blk_drewN ?_ _ | refine blk_drew ?_ | refine blk_alloc ?_ _)); exact BK270.out⟩
          have n2_ : Aside0 (((w27.setCell ⟨gb271, 0, none⟩ (.int .u64 ji7)).setCell ⟨gb271, 1, none⟩ (.int .u64 ji9)).heap[gb271]? = some (.cells #[.int .u64 ji7, .int .u64 ji9] 24 (0, 0))) := ⟨by (with_reducible repeat (first | refine blk_drewN ?_ _ | refine blk_drew ?_ | refine blk_alloc ?_ _)); refine blk_put (cs := #[.int .u64 ji7, .int .u64 0]) ?_ 1 _ rfl; (with_reducible repeat (first | refine blk_drewN ?_ _ | refine blk_drew ?_ | refine blk_alloc ?_ _)); refine blk_put (cs := #[.int .u64 0, .int .u64 0]) ?_ 0 _ rfl; (with_reducible repeat (first | refine blk_drewN ?_ _ | refine blk_drew ?_ | refine blk_alloc ?_ _)); exact BK271.out⟩
          have n3_ : Aside0 (Below w.heap.size w ((w27.setCell ⟨gb271, 0, none⟩ (.int .u64 ji7)).setCell ⟨gb271, 1, none⟩ (.int .u64 ji9))) := ⟨by repeat (first | (with_reducible first | exact HB.out | apply below_alloc | apply pw_below_drewN | apply below_drew1 | refine below_set ?_ GE269.out | refine below_set ?_ GE270.out | refine below_set ?_ GE271.out) | exact HB.out)⟩
          (try clear BK269)
          (try clear BK270)
          (try clear BK271)
          (try clear HB)
          generalize ((w27.setCell ⟨gb271, 0, none⟩ (.int .u64 ji7)).setCell ⟨gb271, 1, none⟩ (.int .u64 ji9)) = w32 at n0_ n1_ n2_ n3_ ⊢
          have BK269 := n0_
          have BK270 := n1_
          have BK271 := n2_
          have HB := n3_
          clear n0_ n1_ n2_ n3_
          have n0_ := Aside0.mk (blk_drew BK269.out)
          have n1_ := Aside0.mk (blk_drew BK270.out)
          have n2_ := Aside0.mk (blk_drew BK271.out)
          have n3_ := Aside0.mk (below_drew1 HB.out)
          clear BK269
          clear BK270
          clear BK271
          clear HB
          have BK269 := n0_
          have BK270 := n1_
          have BK271 := n2_
          have HB := n3_
          clear n0_ n1_ n2_ n3_
          refine start_ (n := 8) (S := fun w' => w'.cell? ⟨gb271, 0, none⟩ = some (.int .u64 ji7) ∧ w'.cell? ⟨gb271, 1, none⟩ = some (.int .u64 ji9) ∧ w'.cell? ⟨gb269, 0, none⟩ = some (.int .u64 a0_0) ∧ w'.cell? ⟨gb269, 1, none⟩ = some (.int .u64 a0_1) ∧ w'.cell? ⟨gb269, 2, none⟩ = some (.int .i64 a0_2)) (ds := [7]) #[false, false, false, false, false, false, false, false] (by kernel_rfl) rfl rfl ⟨(blk_cell BK271.out 0).trans rfl, (blk_cell BK271.out 1).trans rfl, (blk_cell BK269.out 0).trans rfl, (blk_cell BK269.out 1).trans rfl, (blk_cell BK269.out 2).trans rfl⟩ (fun hHeld => ?_); refine with_tabW known_wide_sign.tab6 known_wide_sign.bits6 (fun HT_ HW_ => ?_)
          generalize w32.drew = w33 at BK269 BK270 BK271 HB hHeld ⊢
          refine pure_ (i := 0) (N := some 43) (v := ?_) (a' := ?_) #[true, false, false, false, false, false, false, false] rfl rfl (any_of HT_.out (by kernel_rfl)) (fun _ _ _ h => h) (Or.inl ⟨by rfl, ?_⟩) ?_ ?_
          rotate_left
          · intro w'
            go_simp
            with_reducible rfl
          rotate_left
          · simp only [Act.put, List.setIfInBounds_toArray, List.set_cons_zero, List.set_cons_succ, i64_w, i32_w]
            rfl
          refine pure_ (i := 3) (N := some 46) (v := ?_) (a' := ?_) #[true, false, false, true, false, false, false, false] rfl rfl (any_of HT_.out (by kernel_rfl)) (fun _ _ _ h => h) (Or.inl ⟨by rfl, ?_⟩) ?_ ?_
          rotate_left
          · intro w'
            go_simp
            with_reducible rfl
          rotate_left
          · simp only [Act.put, List.setIfInBounds_toArray, List.set_cons_zero, List.set_cons_succ, i64_w, i32_w]
            rfl
          refine take_ (i := 1) (N := some 44) (v := ?_) (a' := ?_) #[true, true, false, true, false, false, false, false] rfl rfl (take_ofW HT_.out HW_.out (by kernel_rfl)) (fun _ _ _ h => h) (Or.inl ⟨by rfl, ?_⟩) hHeld ?_ ?_
          rotate_left
          · rintro w' ⟨s0, s1, s2, s3, s4⟩
            go_simp
            with_reducible rfl
          rotate_left
          · simp only [Act.put, List.setIfInBounds_toArray, List.set_cons_zero, List.set_cons_succ, i64_w, i32_w]
            rfl
          refine take_ (i := 2) (N := some 45) (v := ?_) (a' := ?_) #[true, true, true, true, false, false, false, false] rfl rfl (take_ofW HT_.out HW_.out (by kernel_rfl)) (fun _ _ _ h => h) (Or.inl ⟨by rfl, ?_⟩) hHeld ?_ ?_
          rotate_left
          · rintro w' ⟨s0, s1, s2, s3, s4⟩
            go_simp
            with_reducible rfl
          rotate_left
          · simp only [Act.put, List.setIfInBounds_toArray, List.set_cons_zero, List.set_cons_succ, i64_w, i32_w]
            rfl
          refine one_ (i := 4) (N := some 47) #[true, true, true, true, true, false, false, false] rfl rfl (one_of HT_.out (by kernel_rfl)) (by decide) (fun K hK => ?_)
          refine goes_ Tryd.func103 (by kernel_rfl) rfl #[.agg #[.int .u64 a0_0, .int .u64 a0_1, .int .i64 a0_2], .int .u64 a1] (by rfl) rfl rfl (by (try simp only [List.map_toArray, List.map_cons, List.map_nil]); first | done | rfl | (simp only [List.length_drop, List.length_take]; rfl)) ?_
          with_reducible refine (known_wide_in.calls a0_0 a0_1 a0_2 a1 t272 _ A22.out).mono ?_
          rintro e w34 ⟨rfl, hb⟩
          refine ⟨_, rfl, ?_⟩
          have n0_ := Aside0.mk (blk_below (g := gb269) (o := .cells #[.int .u64 a0_0, .int .u64 a0_1, .int .i64 a0_2] 73 (0, 0)) (by (with_reducible repeat (first | refine blk_drewN ?_ _ | refine blk_drew ?_ | refine blk_alloc ?_ _)); exact BK269.out) hb)
          have n1_ := Aside0.mk (blk_below (g := gb270) (o := .cells #[.int .u64 0, .int .u64 0] 24 (0, 0)) (by (with_reducible repeat (first | refine blk_drewN ?_ _ | refine blk_drew ?_ | refine blk_alloc ?_ _)); exact BK270.out) hb)
          have n2_ := Aside0.mk (blk_below (g := gb271) (o := .cells #[.int .u64 ji7, .int .u64 ji9] 24 (0, 0)) (by (with_reducible repeat (first | refine blk_drewN ?_ _ | refine blk_drew ?_ | refine blk_alloc ?_ _)); exact BK271.out) hb)
          have n3_ := Aside0.mk (below_step (by repeat (first | (with_reducible first | exact HB.out | apply below_alloc | apply pw_below_drewN | apply below_drew1 | refine below_set ?_ GE269.out | refine below_set ?_ GE270.out | refine below_set ?_ GE271.out) | exact HB.out)) hb)
          clear BK269
          clear BK270
          clear BK271
          clear HB
          have BK269 := n0_
          have BK270 := n1_
          have BK271 := n2_
          have HB := n3_
          clear n0_ n1_ n2_ n3_
          (try clear hb)
          (try clear hb2)
          (try clear hk)
          (try clear hi)
          refine hK.out _ _ ⟨(blk_cell BK271.out 0).trans rfl, (blk_cell BK271.out 1).trans rfl, (blk_cell BK269.out 0).trans rfl, (blk_cell BK269.out 1).trans rfl, (blk_cell BK269.out 2).trans rfl⟩ (fun hHeld => ?_)
          clear hK K
          refine norm_ (a' := ?_) ?_ ?_
          rotate_left
          · show Act.put _ (some 47) _ = _
            simp only [Act.put, List.setIfInBounds_toArray, List.set_cons_zero, List.set_cons_succ, i64_w, i32_w]
            rfl
          refine pure_ (i := 5) (N := some 48) (v := ?_) (a' := ?_) #[true, true, true, true, true, true, false, false] rfl rfl (any_of HT_.out (by kernel_rfl)) (fun _ _ _ h => h) (Or.inl ⟨by rfl, ?_⟩) ?_ ?_
          rotate_left
          · intro w'
            go_simp
            with_reducible rfl
          rotate_left
          · simp only [Act.put, List.setIfInBounds_toArray, List.set_cons_zero, List.set_cons_succ, i64_w, i32_w]
            rfl
          refine pure_ (i := 6) (N := some 49) (v := ?_) (a' := ?_) #[true, true, true, true, true, true, true, false] rfl rfl (any_of HT_.out (by kernel_rfl)) (fun _ _ _ h => h) (Or.inl ⟨by rfl, ?_⟩) ?_ ?_
          rotate_left
          · intro w'
            go_simp
            with_reducible rfl
          rotate_left
          · simp only [Act.put, List.setIfInBounds_toArray, List.set_cons_zero, List.set_cons_succ, i64_w, i32_w]
            rfl
          refine last_ (i := 7) (N := none) #[true, true, true, true, true, true, true, true] rfl rfl (one_of HT_.out (by kernel_rfl)) (by decide) (fun K hK => ?_)
          have hs35 : w34.cell? ⟨gb271, 1, none⟩ = some (.int .u64 ji9) := (blk_cell BK271.out 1).trans rfl
          have hfs35 := blk_frozen BK271.out 1
          have hns35_0 := NB269_271.out
          have hns35_1 := NB270_271.out
          have hms35_0 := NB271_269.out
          have hms35_1 := NB271_270.out
          refine skip_ (w1 := ?_) (by rfl) rfl ?_ ?_
          rotate_left
          · go_simp
            rfl
          refine hK.out _ _ ?_
          clear hK K
          refine done_ (done_of HT_.out (by kernel_rfl)) ?_
          have hcz36_0 : w34.cell? ⟨gb271, 0, none⟩ = some (.int .u64 ji7) := (blk_cell BK271.out 0).trans rfl
          have hcz36_1 : w34.cell? ⟨gb271, 1, none⟩ = some (.int .u64 ji9) := (blk_cell BK271.out 1).trans rfl
          have hfz36_0 := blk_frozen BK271.out 0
          have hfz36_1 := blk_frozen BK271.out 1
          have hcz37_0 : w34.cell? ⟨gb270, 0, none⟩ = some (.int .u64 0) := (blk_cell BK270.out 0).trans rfl
          have hcz37_1 : w34.cell? ⟨gb270, 1, none⟩ = some (.int .u64 0) := (blk_cell BK270.out 1).trans rfl
          have hfz37_0 := blk_frozen BK270.out 0
          have hfz37_1 := blk_frozen BK270.out 1
          try go_wp2
          refine bodyPost_ret (results_cell_row rfl _ _ gb270 24 #[.int .u64 ji7, .int .u64 (Go.bits .or .u64 (ji9) t272)] (0, 0) _ rfl (by (with_reducible repeat (first | refine blk_drewN ?_ _ | refine blk_drew ?_ | refine blk_alloc ?_ _)); refine blk_put (cs := #[.int .u64 ji7, .int .u64 0]) ?_ 1 _ rfl; (with_reducible repeat (first | refine blk_drewN ?_ _ | refine blk_drew ?_ | refine blk_alloc ?_ _)); refine blk_put (cs := #[.int .u64 0, .int .u64 0]) ?_ 0 _ rfl; (with_reducible repeat (first | refine blk_drewN ?_ _ | refine blk_drew ?_ | refine blk_alloc ?_ _)); refine blk_far ?_ NB270_271.out _; (with_reducible repeat (first | refine blk_drewN ?_ _ | refine blk_drew ?_ | refine blk_alloc ?_ _)); exact BK270.out) Tryd.underlying24 rfl (by kernel_rfl)) rfl ?_
          exact ⟨by first | rfl | (simp [errW_none, errW_some] <;> rfl) | (simp only [← hji3, ← hji5, ← hji7, ← hji9]; first | rfl | (simp [errW_none, errW_some] <;> rfl)) | (simp [*, errW_none, errW_some] <;> rfl), by repeat (first | (with_reducible first | exact HB.out | apply below_alloc | apply pw_below_drewN | apply below_drew1 | refine below_set ?_ GE269.out | refine below_set ?_ GE270.out | refine below_set ?_ GE271.out) | exact HB.out)⟩
      · rw [if_neg c10] at H
        have c10b0 : ((Go.bits .and .u64 a0_0 (ji5)) == 0) = false := beq_eq_false_iff_ne.mpr c10
        have c10b1 : ((Go.bits .and .u64 a0_0 (ji5)) != 0) = true := bne_iff_ne.mpr c10
        replace H := Option.bind_eq_some_iff.mp H
        obtain ⟨t273, A380, H⟩ := H
        replace H : (some (Go.bits .or .u64 (ji7) t273, ji9)) = some (r1, r2) := H
        have A38 := Aside0.mk A380
        clear A380
        simp only [Option.some.injEq, Prod.mk.injEq] at H
        obtain ⟨rfl, rfl⟩ := H
        go_enter Tryd.func86, Tryd.ntmps86
        try go_wp2_with (first | ((with_reducible refine gate_dst (N := 2) rfl ?_); refine box_event ?hg (N := 2) ?hd (cs := #[.int .u64 a0_0, .int .u64 a0_1, .int .i64 a0_2]) (t := 73) ?hr ?_; (case hd => rfl); (case hg => rfl); (case hr => first | (go_simp; done) | (go_simp; rfl)); intro gb269 hg w39 hbox hb; have n0_ := Aside0.mk (below_step (by repeat (first | (with_reducible first | exact HB.out | apply below_alloc | apply pw_below_drewN | apply below_drew1) | exact HB.out)) hb); have n1_ := Aside0.mk (hbox); have n2_ := Aside0.mk ((by rw [hg]; exact (below_size (by repeat (first | (with_reducible first | exact HB.out | apply below_alloc | apply pw_below_drewN | apply below_drew1) | exact HB.out))) : w.heap.size ≤ gb269)); have n3_ := Aside0.mk ((by rw [hg]; exact (below_size (by repeat (first | (with_reducible first | exact HB.out | apply below_alloc | apply pw_below_drewN | apply below_drew1) | exact HB.out))) : w.heap.size ≤ gb269)); clear HB; have HB := n0_; have BK269 := n1_; have GW269 := n2_; have GE269 := n3_; clear n0_ n1_ n2_ n3_; clear hb hbox hg) | ((with_reducible refine gate_dst (N := 4) rfl ?_); refine box_event ?hg (N := 4) ?hd (cs := #[.int .u64 0, .int .u64 0]) (t := 24) ?hr ?_; (case hd => rfl); (case hg => rfl); (case hr => first | (go_simp; done) | (go_simp; rfl)); intro gb270 hg w40 hbox hb; have n0_ := Aside0.mk (blk_below (g := gb269) (o := .cells #[.int .u64 a0_0, .int .u64 a0_1, .int .i64 a0_2] 73 (0, 0)) (by (with_reducible repeat (first | refine blk_drewN ?_ _ | refine blk_drew ?_ | refine blk_alloc ?_ _)); exact BK269.out) hb); have n1_ := Aside0.mk (below_step (by repeat (first | (with_reducible first | exact HB.out | apply below_alloc | apply pw_below_drewN | apply below_drew1 | refine below_set ?_ GE269.out) | exact HB.out)) hb); have n2_ := Aside0.mk (hbox); have n3_ := Aside0.mk ((by rw [hg]; exact (below_size (by repeat (first | (with_reducible first | exact HB.out | apply below_alloc | apply pw_below_drewN | apply below_drew1 | refine below_set ?_ GE269.out) | exact HB.out))) : w.heap.size ≤ gb270)); have n4_ := Aside0.mk ((by rw [hg]; exact (below_size (by repeat (first | (with_reducible first | exact HB.out | apply below_alloc | apply pw_below_drewN | apply below_drew1 | refine below_set ?_ GE269.out) | exact HB.out))) : w.heap.size ≤ gb270)); have n5_ := Aside0.mk ((by rw [hg]; exact Nat.ne_of_lt (blk_lt (g := gb269) (o := .cells #[.int .u64 a0_0, .int .u64 a0_1, .int .i64 a0_2] 73 (0, 0)) (by (with_reducible repeat (first | refine blk_drewN ?_ _ | refine blk_drew ?_ | refine blk_alloc ?_ _)); exact BK269.out)) : gb269 ≠ gb270)); have n6_ := Aside0.mk ((by rw [hg]; exact Nat.ne_of_gt (blk_lt (g := gb269) (o := .cells #[.int .u64 a0_0, .int .u64 a0_1, .int .i64 a0_2] 73 (0, 0)) (by (with_reducible repeat (first | refine blk_drewN ?_ _ | refine blk_drew ?_ | refine blk_alloc ?_ _)); exact BK269.out)) : gb270 ≠ gb269)); clear BK269; clear HB; have BK269 := n0_; have HB := n1_; have BK270 := n2_; have GW270 := n3_; have GE270 := n4_; have NB269_270 := n5_; have NB270_269 := n6_; clear n0_ n1_ n2_ n3_ n4_ n5_ n6_; clear hb hbox hg; have hnb41 := NB269_270.out; have hnc41 := NB270_269.out; have hcz42_0 : w40.cell? ⟨gb269, 0, none⟩ = some (.int .u64 a0_0) := (blk_cell BK269.out 0).trans rfl; have hcz42_1 : w40.cell? ⟨gb269, 1, none⟩ = some (.int .u64 a0_1) := (blk_cell BK269.out 1).trans rfl; have hcz42_2 : w40.cell? ⟨gb269, 2, none⟩ = some (.int .i64 a0_2) := (blk_cell BK269.out 2).trans rfl; have hfz42_0 := blk_frozen BK269.out 0; have hfz42_1 := blk_frozen BK269.out 1; have hfz42_2 := blk_frozen BK269.out 2) | ((with_reducible refine gate_dst (N := 6) rfl ?_); refine box_event ?hg (N := 6) ?hd (cs := #[.int .u64 0, .int .u64 0]) (t := 24) ?hr ?_; (case hd => rfl); (case hg => rfl); (case hr => first | (go_simp; done) | (go_simp; rfl)); intro gb271 hg w43 hbox hb; have n0_ := Aside0.mk (blk_below (g := gb269) (o := .cells #[.int .u64 a0_0, .int .u64 a0_1, .int .i64 a0_2] 73 (0, 0)) (by (with_reducible repeat (first | refine blk_drewN ?_ _ | refine blk_drew ?_ | refine blk_alloc ?_ _)); exact BK269.out) hb); have n1_ := Aside0.mk (blk_below (g := gb270) (o := .cells #[.int .u64 0, .int .u64 0] 24 (0, 0)) (by (with_reducible repeat (first | refine blk_drewN ?_ _ | refine blk_drew ?_ | refine blk_alloc ?_ _)); exact BK270.out) hb); have n2_ := Aside0.mk (below_step (by repeat (first | (with_reducible first | exact HB.out | apply below_alloc | apply pw_below_drewN | apply below_drew1 | refine below_set ?_ GE269.out | refine below_set ?_ GE270.out) | exact HB.out)) hb); have n3_ := Aside0.mk (hbox); have n4_ := Aside0.mk ((by rw [hg]; exact (below_size (by repeat (first | (with_reducible first | exact HB.out | apply below_alloc | apply pw_below_drewN | apply below_drew1 | refine below_set ?_ GE269.out | refine below_set ?_ GE270.out) | exact HB.out))) : w.heap.size ≤ gb271)); have n5_ := Aside0.mk ((by rw [hg]; exact (below_size (by repeat (first | (with_reducible first | exact HB.out | apply below_alloc | apply pw_below_drewN | apply below_drew1 | refine below_set ?_ GE269.out | refine below_set ?_ GE270.out) | exact HB.out))) : w.heap.size ≤ gb271)); have n6_ := Aside0.mk ((by rw [hg]; exact Nat.ne_of_lt (blk_lt (g := gb269) (o := .cells #[.int .u64 a0_0, .int .u64 a0_1, .int .i64 a0_2] 73 (0, 0)) (by (with_reducible repeat (first | refine blk_drewN ?_ _ | refine blk_drew ?_ | refine blk_alloc ?_ _)); exact BK269.out)) : gb269 ≠ gb271)); have n7_ := Aside0.mk ((by rw [hg]; exact Nat.ne_of_gt (blk_lt (g := gb269) (o := .cells #[.int .u64 a0_0, .int .u64 a0_1, .int .i64 a0_2] 73 (0, 0)) (by (with_reducible repeat (first | refine blk_drewN ?_ _ | refine blk_drew ?_ | refine blk_alloc ?_ _)); exact BK269.out)) : gb271 ≠ gb269)); have n8_ := Aside0.mk ((by rw [hg]; exact Nat.ne_of_lt (blk_lt (g := gb270) (o := .cells #[.int .u64 0, .int .u64 0] 24 (0, 0)) (by (with_reducible repeat (first | refine blk_drewN ?_ _ | refine blk_drew ?_ | refine blk_alloc ?_ _)); exact BK270.out)) : gb270 ≠ gb271)); have n9_ := Aside0.mk ((by rw [hg]; exact Nat.ne_of_gt (blk_lt (g := gb270) (o := .cells #[.int .u64 0, .int .u64 0] 24 (0, 0)) (by (with_reducible repeat (first | refine blk_drewN ?_ _ | refine blk_drew ?_ | refine blk_alloc ?_ _)); exact BK270.out)) : gb271 ≠ gb270)); clear BK269; clear BK270; clear HB; have BK269 := n0_; have BK270 := n1_; have HB := n2_; have BK271 := n3_; have GW271 := n4_; have GE271 := n5_; have NB269_271 := n6_; have NB271_269 := n7_; have NB270_271 := n8_; have NB271_270 := n9_; clear n0_ n1_ n2_ n3_ n4_ n5_ n6_ n7_ n8_ n9_; clear hb hbox hg; have hnb44 := NB271_269.out; have hnc44 := NB269_271.out; have hnb45 := NB271_270.out; have hnc45 := NB270_271.out; have hcz46_0 : w43.cell? ⟨gb271, 0, none⟩ = some (.int .u64 0) := (blk_cell BK271.out 0).trans rfl; have hcz46_1 : w43.cell? ⟨gb271, 1, none⟩ = some (.int .u64 0) := (blk_cell BK271.out 1).trans rfl; have hfz46_0 := blk_frozen BK271.out 0; have hfz46_1 := blk_frozen BK271.out 1; have hcz47_0 : w43.cell? ⟨gb269, 0, none⟩ = some (.int .u64 a0_0) := (blk_cell BK269.out 0).trans rfl; have hcz47_1 : w43.cell? ⟨gb269, 1, none⟩ = some (.int .u64 a0_1) := (blk_cell BK269.out 1).trans rfl; have hcz47_2 : w43.cell? ⟨gb269, 2, none⟩ = some (.int .i64 a0_2) := (blk_cell BK269.out 2).trans rfl; have hfz47_0 := blk_frozen BK269.out 0; have hfz47_1 := blk_frozen BK269.out 1; have hfz47_2 := blk_frozen BK269.out 2))
        have n0_ : Aside0 (((w43.setCell ⟨gb271, 0, none⟩ (.int .u64 ji7)).setCell ⟨gb271, 1, none⟩ (.int .u64 ji9)).heap[gb269]? = some (.cells #[.int .u64 a0_0, .int .u64 a0_1, .int .i64 a0_2] 73 (0, 0))) := ⟨by (with_reducible repeat (first | refine blk_drewN ?_ _ | refine blk_drew ?_ | refine blk_alloc ?_ _)); refine blk_far ?_ NB269_271.out _; (with_reducible repeat (first | refine blk_drewN ?_ _ | refine blk_drew ?_ | refine blk_alloc ?_ _)); refine blk_far ?_ NB269_271.out _; (with_reducible repeat (first | refine blk_drewN ?_ _ | refine blk_drew ?_ | refine blk_alloc ?_ _)); exact BK269.out⟩
        have n1_ : Aside0 (((w43.setCell ⟨gb271, 0, none⟩ (.int .u64 ji7)).setCell ⟨gb271, 1, none⟩ (.int .u64 ji9)).heap[gb270]? = some (.cells #[.int .u64 0, .int .u64 0] 24 (0, 0))) := ⟨by (with_reducible repeat (first | refine blk_drewN ?_ _ | refine blk_drew ?_ | refine blk_alloc ?_ _)); refine blk_far ?_ NB270_271.out _; (with_reducible repeat (first | refine blk_drewN ?_ _ | refine blk_drew ?_ | refine blk_alloc ?_ _)); refine blk_far ?_ NB270_271.out _; (with_reducible repeat (first | refine blk_drewN ?_ _ | refine blk_drew ?_ | refine blk_alloc ?_ _)); exact BK270.out⟩
        have n2_ : Aside0 (((w43.setCell ⟨gb271, 0, none⟩ (.int .u64 ji7)).setCell ⟨gb271, 1, none⟩ (.int .u64 ji9)).heap[gb271]? = some (.cells #[.int .u64 ji7, .int .u64 ji9] 24 (0, 0))) := ⟨by (with_reducible repeat (first | refine blk_drewN ?_ _ | refine blk_drew ?_ | refine blk_alloc ?_ _)); refine blk_put (cs := #[.int .u64 ji7, .int .u64 0]) ?_ 1 _ rfl; (with_reducible repeat (first | refine blk_drewN ?_ _ | refine blk_drew ?_ | refine blk_alloc ?_ _)); refine blk_put (cs := #[.int .u64 0, .int .u64 0]) ?_ 0 _ rfl; (with_reducible repeat (first | refine blk_drewN ?_ _ | refine blk_drew ?_ | refine blk_alloc ?_ _)); exact BK271.out⟩
        have n3_ : Aside0 (Below w.heap.size w ((w43.setCell ⟨gb271, 0, none⟩ (.int .u64 ji7)).setCell ⟨gb271, 1, none⟩ (.int .u64 ji9))) := ⟨by repeat (first | (with_reducible first | exact HB.out | apply below_alloc | apply pw_below_drewN | apply below_drew1 | refine below_set ?_ GE269.out | refine below_set ?_ GE270.out | refine below_set ?_ GE271.out) | exact HB.out)⟩
        (try clear BK269)
        (try clear BK270)
        (try clear BK271)
        (try clear HB)
        generalize ((w43.setCell ⟨gb271, 0, none⟩ (.int .u64 ji7)).setCell ⟨gb271, 1, none⟩ (.int .u64 ji9)) = w48 at n0_ n1_ n2_ n3_ ⊢
        have BK269 := n0_
        have BK270 := n1_
        have BK271 := n2_
        have HB := n3_
        clear n0_ n1_ n2_ n3_
        have n0_ := Aside0.mk (blk_drew BK269.out)
        have n1_ := Aside0.mk (blk_drew BK270.out)
        have n2_ := Aside0.mk (blk_drew BK271.out)
        have n3_ := Aside0.mk (below_drew1 HB.out)
        clear BK269
        clear BK270
        clear BK271
        clear HB
        have BK269 := n0_
        have BK270 := n1_
        have BK271 := n2_
        have HB := n3_
        clear n0_ n1_ n2_ n3_
        refine start_ (n := 8) (S := fun w' => w'.cell? ⟨gb271, 0, none⟩ = some (.int .u64 ji7) ∧ w'.cell? ⟨gb271, 1, none⟩ = some (.int .u64 ji9) ∧ w'.cell? ⟨gb269, 0, none⟩ = some (.int .u64 a0_0) ∧ w'.cell? ⟨gb269, 1, none⟩ = some (.int .u64 a0_1) ∧ w'.cell? ⟨gb269, 2, none⟩ = some (.int .i64 a0_2)) (ds := [7]) #[false, false, false, false, false, false, false, false] (by kernel_rfl) rfl rfl ⟨(blk_cell BK271.out 0).trans rfl, (blk_cell BK271.out 1).trans rfl, (blk_cell BK269.out 0).trans rfl, (blk_cell BK269.out 1).trans rfl, (blk_cell BK269.out 2).trans rfl⟩ (fun hHeld => ?_); refine with_tabW known_wide_sign.tab4 known_wide_sign.bits4 (fun HT_ HW_ => ?_)
        generalize w48.drew = w49 at BK269 BK270 BK271 HB hHeld ⊢
        refine pure_ (i := 0) (N := some 29) (v := ?_) (a' := ?_) #[true, false, false, false, false, false, false, false] rfl rfl (any_of HT_.out (by kernel_rfl)) (fun _ _ _ h => h) (Or.inl ⟨by rfl, ?_⟩) ?_ ?_
        rotate_left
        · intro w'
          go_simp
          with_reducible rfl
        rotate_left
        · simp only [Act.put, List.setIfInBounds_toArray, List.set_cons_zero, List.set_cons_succ, i64_w, i32_w]
          rfl
        refine pure_ (i := 3) (N := some 32) (v := ?_) (a' := ?_) #[true, false, false, true, false, false, false, false] rfl rfl (any_of HT_.out (by kernel_rfl)) (fun _ _ _ h => h) (Or.inl ⟨by rfl, ?_⟩) ?_ ?_
        rotate_left
        · intro w'
          go_simp
          with_reducible rfl
        rotate_left
        · simp only [Act.put, List.setIfInBounds_toArray, List.set_cons_zero, List.set_cons_succ, i64_w, i32_w]
          rfl
        refine take_ (i := 1) (N := some 30) (v := ?_) (a' := ?_) #[true, true, false, true, false, false, false, false] rfl rfl (take_ofW HT_.out HW_.out (by kernel_rfl)) (fun _ _ _ h => h) (Or.inl ⟨by rfl, ?_⟩) hHeld ?_ ?_
        rotate_left
        · rintro w' ⟨s0, s1, s2, s3, s4⟩
          go_simp
          with_reducible rfl
        rotate_left
        · simp only [Act.put, List.setIfInBounds_toArray, List.set_cons_zero, List.set_cons_succ, i64_w, i32_w]
          rfl
        refine take_ (i := 2) (N := some 31) (v := ?_) (a' := ?_) #[true, true, true, true, false, false, false, false] rfl rfl (take_ofW HT_.out HW_.out (by kernel_rfl)) (fun _ _ _ h => h) (Or.inl ⟨by rfl, ?_⟩) hHeld ?_ ?_
        rotate_left
        · rintro w' ⟨s0, s1, s2, s3, s4⟩
          go_simp
          with_reducible rfl
        rotate_left
        · simp only [Act.put, List.setIfInBounds_toArray, List.set_cons_zero, List.set_cons_succ, i64_w, i32_w]
          rfl
        refine one_ (i := 4) (N := some 33) #[true, true, true, true, true, false, false, false] rfl rfl (one_of HT_.out (by kernel_rfl)) (by decide) (fun K hK => ?_)
        refine goes_ Tryd.func103 (by kernel_rfl) rfl #[.agg #[.int .u64 a0_0, .int .u64 a0_1, .int .i64 a0_2], .int .u64 a1] (by rfl) rfl rfl (by (try simp only [List.map_toArray, List.map_cons, List.map_nil]); first | done | rfl | (simp only [List.length_drop, List.length_take]; rfl)) ?_
        with_reducible refine (known_wide_in.calls a0_0 a0_1 a0_2 a1 t273 _ A38.out).mono ?_
        rintro e w50 ⟨rfl, hb⟩
        refine ⟨_, rfl, ?_⟩
        have n0_ := Aside0.mk (blk_below (g := gb269) (o := .cells #[.int .u64 a0_0, .int .u64 a0_1, .int .i64 a0_2] 73 (0, 0)) (by (with_reducible repeat (first | refine blk_drewN ?_ _ | refine blk_drew ?_ | refine blk_alloc ?_ _)); exact BK269.out) hb)
        have n1_ := Aside0.mk (blk_below (g := gb270) (o := .cells #[.int .u64 0, .int .u64 0] 24 (0, 0)) (by (with_reducible repeat (first | refine blk_drewN ?_ _ | refine blk_drew ?_ | refine blk_alloc ?_ _)); exact BK270.out) hb)
        have n2_ := Aside0.mk (blk_below (g := gb271) (o := .cells #[.int .u64 ji7, .int .u64 ji9] 24 (0, 0)) (by (with_reducible repeat (first | refine blk_drewN ?_ _ | refine blk_drew ?_ | refine blk_alloc ?_ _)); exact BK271.out) hb)
        have n3_ := Aside0.mk (below_step (by repeat (first | (with_reducible first | exact HB.out | apply below_alloc | apply pw_below_drewN | apply below_drew1 | refine below_set ?_ GE269.out | refine below_set ?_ GE270.out | refine below_set ?_ GE271.out) | exact HB.out)) hb)
        clear BK269
        clear BK270
        clear BK271
        clear HB
        have BK269 := n0_
        have BK270 := n1_
        have BK271 := n2_
        have HB := n3_
        clear n0_ n1_ n2_ n3_
        (try clear hb)
        (try clear hb2)
        (try clear hk)
        (try clear hi)
        refine hK.out _ _ ⟨(blk_cell BK271.out 0).trans rfl, (blk_cell BK271.out 1).trans rfl, (blk_cell BK269.out 0).trans rfl, (blk_cell BK269.out 1).trans rfl, (blk_cell BK269.out 2).trans rfl⟩ (fun hHeld => ?_)
        clear hK K
        refine norm_ (a' := ?_) ?_ ?_
        rotate_left
        · show Act.put _ (some 33) _ = _
          simp only [Act.put, List.setIfInBounds_toArray, List.set_cons_zero, List.set_cons_succ, i64_w, i32_w]
          rfl
        refine pure_ (i := 5) (N := some 34) (v := ?_) (a' := ?_) #[true, true, true, true, true, true, false, false] rfl rfl (any_of HT_.out (by kernel_rfl)) (fun _ _ _ h => h) (Or.inl ⟨by rfl, ?_⟩) ?_ ?_
        rotate_left
        · intro w'
          go_simp
          with_reducible rfl
        rotate_left
        · simp only [Act.put, List.setIfInBounds_toArray, List.set_cons_zero, List.set_cons_succ, i64_w, i32_w]
          rfl
        refine pure_ (i := 6) (N := some 35) (v := ?_) (a' := ?_) #[true, true, true, true, true, true, true, false] rfl rfl (any_of HT_.out (by kernel_rfl)) (fun _ _ _ h => h) (Or.inl ⟨by rfl, ?_⟩) ?_ ?_
        rotate_left
        · intro w'
          go_simp
          with_reducible rfl
        rotate_left
        · simp only [Act.put, List.setIfInBounds_toArray, List.set_cons_zero, List.set_cons_succ, i64_w, i32_w]
          rfl
        refine last_ (i := 7) (N := none) #[true, true, true, true, true, true, true, true] rfl rfl (one_of HT_.out (by kernel_rfl)) (by decide) (fun K hK => ?_)
        have hs51 : w50.cell? ⟨gb271, 0, none⟩ = some (.int .u64 ji7) := (blk_cell BK271.out 0).trans rfl
        have hfs51 := blk_frozen BK271.out 0
        have hns51_0 := NB269_271.out
        have hns51_1 := NB270_271.out
        have hms51_0 := NB271_269.out
        have hms51_1 := NB271_270.out
        refine skip_ (w1 := ?_) (by rfl) rfl ?_ ?_
        rotate_left
        · go_simp
          rfl
        refine hK.out _ _ ?_
        clear hK K
        refine done_ (done_of HT_.out (by kernel_rfl)) ?_
        have hcz52_0 : w50.cell? ⟨gb271, 0, none⟩ = some (.int .u64 ji7) := (blk_cell BK271.out 0).trans rfl
        have hcz52_1 : w50.cell? ⟨gb271, 1, none⟩ = some (.int .u64 ji9) := (blk_cell BK271.out 1).trans rfl
        have hfz52_0 := blk_frozen BK271.out 0
        have hfz52_1 := blk_frozen BK271.out 1
        have hcz53_0 : w50.cell? ⟨gb270, 0, none⟩ = some (.int .u64 0) := (blk_cell BK270.out 0).trans rfl
        have hcz53_1 : w50.cell? ⟨gb270, 1, none⟩ = some (.int .u64 0) := (blk_cell BK270.out 1).trans rfl
        have hfz53_0 := blk_frozen BK270.out 0
        have hfz53_1 := blk_frozen BK270.out 1
        try go_wp2
        refine bodyPost_ret (results_cell_row rfl _ _ gb270 24 #[.int .u64 (Go.bits .or .u64 (ji7) t273), .int .u64 ji9] (0, 0) _ rfl (by (with_reducible repeat (first | refine blk_drewN ?_ _ | refine blk_drew ?_ | refine blk_alloc ?_ _)); refine blk_put (cs := #[.int .u64 (Go.bits .or .u64 (ji7) t273), .int .u64 0]) ?_ 1 _ rfl; (with_reducible repeat (first | refine blk_drewN ?_ _ | refine blk_drew ?_ | refine blk_alloc ?_ _)); refine blk_put (cs := #[.int .u64 0, .int .u64 0]) ?_ 0 _ rfl; (with_reducible repeat (first | refine blk_drewN ?_ _ | refine blk_drew ?_ | refine blk_alloc ?_ _)); refine blk_far ?_ NB270_271.out _; (with_reducible repeat (first | refine blk_drewN ?_ _ | refine blk_drew ?_ | refine blk_alloc ?_ _)); exact BK270.out) Tryd.underlying24 rfl (by kernel_rfl)) rfl ?_
        exact ⟨by first | rfl | (simp [errW_none, errW_some] <;> rfl) | (simp only [← hji3, ← hji5, ← hji7, ← hji9]; first | rfl | (simp [errW_none, errW_some] <;> rfl)) | (simp [*, errW_none, errW_some] <;> rfl), by repeat (first | (with_reducible first | exact HB.out | apply below_alloc | apply pw_below_drewN | apply below_drew1 | refine below_set ?_ GE269.out | refine below_set ?_ GE270.out | refine below_set ?_ GE271.out) | exact HB.out)⟩
    · rw [if_neg c6] at H
      exact absurd H (by simp)
  · rw [if_neg c4] at H
    exact absurd H (by simp)

end Go.Proofs.YtidabafobpbniaaDoor.P
