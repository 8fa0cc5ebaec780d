/- What Go functions compute, and their walks: written by a program of this session (a turned copy of the kit's print) out of the translation. -/
import Derived.Test.YtmgfmabmliphfaaPx0
import Derived.Test.YtmgfmabmliphfaaPx4
import Derived.Test.YtmgfmabmliphfaaPx7
namespace Go.Proofs.Ytmgfmabmliphfaa.P
open Go.RowKit Go.Proofs.YtmgfmabmliphfaaW.PrintWords Go.Proofs.YtmgfmabmliphfaaW.PrintLast Go.Proofs.YtmgfmabmliphfaaW.PrintMore
attribute [local go_sem] max2_int min2_int max_two min_two max_three min_three max_four min_four   -- for this text's walks alone
set_option linter.unusedVariables false
set_option linter.unusedSimpArgs false

/-! ### code_Get: function 16 -/
def code_Get.l0 : Nat → List Int → Int → Int → Int → Int → Int → Int → Int → Option (Int × Int × Int × Int × Int × Int × Int)
  | 0, _, _, _, _, _, _, _, _ => none
  | k + 1, x33, x34, x35, x200000, x200001, x200002, x200003, x200004 => if x35 < x34 then (if 0 ≤ x35 then (if x35 < (x33.length : Int) then (code_Get.l0 k x33 x34 (wrap64 (x35 + 1)) x200000 x200001 x200002 x200003 (Go.bits .or .u64 (IntKind.u64.wrap (x200004 * 256)) (IntKind.u64.wrap (rd x33 x35)))) else (none)) else (none)) else ((code_known.f x200000).bind fun t205 => (if t205 = true then ((code_wrong.f k x200000 x200001 x200002 x200003 x200004).bind fun t206 => (if t206 = 0 then (some (x200000, x200001, x200002, x200003, x200004, 0, 0)) else (some (0, 0, 0, 0, 0, 5, t206)))) else (some (0, 0, 0, 0, 0, 4, 0))))
def code_Get.f (k : Nat) (l0 : List Int) : Option (Int × Int × Int × Int × Int × Int × Int) := if (l0.length : Int) < 12 then (some (0, 0, 0, 0, 0, 1, (l0.length : Int))) else (if 0 < (l0.length : Int) then (if 1 < (l0.length : Int) then (if 2 < (l0.length : Int) then (if 3 < (l0.length : Int) then (if 4 ≤ 12 then (if 12 ≤ (l0.length : Int) then ((some ((l0.take 12).drop 4 : List Int)).bind fun y200 => (code_Get.l0 k y200 (y200.length : Int) 0 (wrap64 (rd l0 0)) (wrap64 (rd l0 1)) (wrap64 (rd l0 2)) (wrap64 (rd l0 3)) 0)) else (none)) else (none)) else (none)) else (none)) else (none)) else (none))
theorem code_Get.mono_l : ∀ k, (∀ y0 y1 y2 y3 y4 y5 y6 y7, LeO (code_Get.l0 k y0 y1 y2 y3 y4 y5 y6 y7) (code_Get.l0 (k + 1) y0 y1 y2 y3 y4 y5 y6 y7))
  | 0 => fun _ _ _ _ _ _ _ _ r h => by simp [code_Get.l0] at h
  | k + 1 => by
    have ih0 := code_Get.mono_l k
    · intro y0 y1 y2 y3 y4 y5 y6 y7
      unfold code_Get.l0
      repeat' first
      | (with_reducible exact ih0 _ _ _ _ _ _ _ _)
      | (with_reducible exact code_wrong.mono _ _ _ _ _ _)
      | (with_reducible exact LeO.refl _)
      | (with_reducible exact LeO.none _)
      | (with_reducible refine LeO.ite ?_ ?_)
      | (with_reducible refine LeO.bind ?_ (fun _ => ?_))
      | exact ih0 _ _ _ _ _ _ _ _
      | exact code_wrong.mono _ _ _ _ _ _
      | exact LeO.none _
      | refine LeO.ite ?_ ?_
      | refine LeO.bind ?_ (fun _ => ?_)
theorem code_Get.mono : ∀ a0 k, LeO (code_Get.f k a0) (code_Get.f (k + 1) a0) := by
  intro a0 k
  have ih0 := code_Get.mono_l k
  unfold code_Get.f
  repeat' first
      | (with_reducible exact ih0 _ _ _ _ _ _ _ _)
      | (with_reducible exact code_wrong.mono _ _ _ _ _ _)
      | (with_reducible exact LeO.refl _)
      | (with_reducible exact LeO.none _)
      | (with_reducible refine LeO.ite ?_ ?_)
      | (with_reducible refine LeO.bind ?_ (fun _ => ?_))
      | exact ih0 _ _ _ _ _ _ _ _
      | exact code_wrong.mono _ _ _ _ _ _
      | exact LeO.none _
      | refine LeO.ite ?_ ?_
      | refine LeO.bind ?_ (fun _ => ?_)
def code_Get.T3 : Bool × List (List Nat × List Nat) := (true, [([], []), ([0], [0]), ([1], [1]), ([2], [2]), ([], []), ([4], [4]), ([5], [5]), ([6], [6]), ([], []), ([8], [8]), ([9], [9]), ([10], [10]), ([], []), ([12], [12]), ([13], [13]), ([14], [14]), ([3, 7, 11, 15], [3, 7, 11, 15]), ([], []), ([17, 16, 0, 1, 2, 3, 4, 5, 6, 7, 8, 9, 10, 11, 12, 13, 14, 15, 16, 17], [16, 17])])
def code_Get.B3 : List Nat := [0, 1, 3, 7, 0, 16, 48, 112, 0, 256, 768, 1792, 0, 4096, 12288, 28672, 65535, 0, 262143]
theorem code_Get.tab3 : rtab .any (opsOf Try.f16 3) = code_Get.T3 := by kernel_rfl
theorem code_Get.bits3 : waitsOk code_Get.T3.2 code_Get.B3 = true := by kernel_rfl
set_option maxHeartbeats 8000000 in
set_option maxRecDepth 100000 in
theorem code_Get.calls (k : Nat) (A0 : Option Addr) (c0 : Nat) (l0 : List Int) (r1 : Int) (r2 : Int) (r3 : Int) (r4 : Int) (r5 : Int) (r6 : Int) (r7 : Int) (w : World) (hr0 : Kd.C (Kd.int .u8) w A0 l0.length l0) (hc0 : l0.length ≤ c0) (h : code_Get.f k l0 = some (r1, r2, r3, r4, r5, r6, r7)) :
    Calls Try.prog 16 #[.slice A0 l0.length c0] w fun e w' => e = .returned (.tuple #[.agg #[.int .i64 r1, .int .i64 r2, .int .i64 r3, .int .i64 r4, .int .u64 r5], .int .i64 r6, .int .i64 r7]) ∧ Below w.heap.size w w' := by
  have hu30 := Try.underlying30
  have HR0 := Aside0.mk hr0
  have HC0 := Aside0.mk hc0
  clear hr0 hc0
  have HB := Aside0.mk (Below.refl w.heap.size w)
  have H : (if (l0.length : Int) < 12 then (some (0, 0, 0, 0, 0, 1, (l0.length : Int))) else (if 0 < (l0.length : Int) then (if 1 < (l0.length : Int) then (if 2 < (l0.length : Int) then (if 3 < (l0.length : Int) then (if 4 ≤ 12 then (if 12 ≤ (l0.length : Int) then ((some ((l0.take 12).drop 4 : List Int)).bind fun y200 => (code_Get.l0 k y200 (y200.length : Int) 0 (wrap64 (rd l0 0)) (wrap64 (rd l0 1)) (wrap64 (rd l0 2)) (wrap64 (rd l0 3)) 0)) else (none)) else (none)) else (none)) else (none)) else (none)) else (none))) = some (r1, r2, r3, r4, r5, r6, r7) := h
  clear h
  by_cases c2 : (l0.length : Int) < 12
  · rw [if_pos c2] at H
    have c2b0 : decide ((l0.length : Int) < 12) = true := decide_eq_true c2
    have c2b1 : decide (l0.length < 12) = true := decide_eq_true (by omega)
    clear c2
    simp only [Option.some.injEq, Prod.mk.injEq] at H
    obtain ⟨rfl, rfl, rfl, rfl, rfl, rfl, rfl⟩ := H
    go_enter Try.func16, Try.ntmps16
    go_wp2_with (first | ((with_reducible refine gate_dst (N := 2) rfl ?_); refine box_event ?hg (N := 2) ?hd (cs := #[.int .i64 0, .int .i64 0, .int .i64 0, .int .i64 0, .int .u64 0]) (t := 30) ?hr ?_; (case hd => rfl); (case hg => rfl); (case hr => first | (go_simp; done) | (go_simp; rfl)); intro gb194 hg w3 hbox hb; have n0_ := Aside0.mk (below_step (by repeat (first | (with_reducible first | exact HB.out | apply below_alloc | apply pw_below_drewN | apply below_drew1) | exact HB.out)) hb); have n1_ := Aside0.mk (hbox); have n2_ := Aside0.mk ((by rw [hg]; exact (below_size (by repeat (first | (with_reducible first | exact HB.out | apply below_alloc | apply pw_below_drewN | apply below_drew1) | exact HB.out))) : w.heap.size ≤ gb194)); have n3_ := Aside0.mk ((by rw [hg]; exact (below_size (by repeat (first | (with_reducible first | exact HB.out | apply below_alloc | apply pw_below_drewN | apply below_drew1) | exact HB.out))) : w.heap.size ≤ gb194)); clear HB; have HB := n0_; have BK194 := n1_; have GW194 := n2_; have GE194 := n3_; clear n0_ n1_ n2_ n3_; clear hb hbox hg; have hcz4_0 : w3.cell? ⟨gb194, 0, none⟩ = some (.int .i64 0) := (blk_cell BK194.out 0).trans rfl; have hcz4_1 : w3.cell? ⟨gb194, 1, none⟩ = some (.int .i64 0) := (blk_cell BK194.out 1).trans rfl; have hcz4_2 : w3.cell? ⟨gb194, 2, none⟩ = some (.int .i64 0) := (blk_cell BK194.out 2).trans rfl; have hcz4_3 : w3.cell? ⟨gb194, 3, none⟩ = some (.int .i64 0) := (blk_cell BK194.out 3).trans rfl; have hcz4_4 : w3.cell? ⟨gb194, 4, none⟩ = some (.int .u64 0) := (blk_cell BK194.out 4).trans rfl; have hfz4_0 := blk_frozen BK194.out 0; have hfz4_1 := blk_frozen BK194.out 1; have hfz4_2 := blk_frozen BK194.out 2; have hfz4_3 := blk_frozen BK194.out 3; have hfz4_4 := blk_frozen BK194.out 4))
    refine bodyPost_ret (results_ctt rfl _ _ gb194 30 #[.int .i64 0, .int .i64 0, .int .i64 0, .int .i64 0, .int .u64 0] (0, 0) _ rfl (by (with_reducible repeat (first | refine blk_drewN ?_ _ | refine blk_drew ?_ | refine blk_alloc ?_ _)); refine blk_put (cs := #[.int .i64 0, .int .i64 0, .int .i64 0, .int .i64 0, .int .u64 0]) ?_ 4 _ rfl; (with_reducible repeat (first | refine blk_drewN ?_ _ | refine blk_drew ?_ | refine blk_alloc ?_ _)); refine blk_put (cs := #[.int .i64 0, .int .i64 0, .int .i64 0, .int .i64 0, .int .u64 0]) ?_ 3 _ rfl; (with_reducible repeat (first | refine blk_drewN ?_ _ | refine blk_drew ?_ | refine blk_alloc ?_ _)); refine blk_put (cs := #[.int .i64 0, .int .i64 0, .int .i64 0, .int .i64 0, .int .u64 0]) ?_ 2 _ rfl; (with_reducible repeat (first | refine blk_drewN ?_ _ | refine blk_drew ?_ | refine blk_alloc ?_ _)); refine blk_put (cs := #[.int .i64 0, .int .i64 0, .int .i64 0, .int .i64 0, .int .u64 0]) ?_ 1 _ rfl; (with_reducible repeat (first | refine blk_drewN ?_ _ | refine blk_drew ?_ | refine blk_alloc ?_ _)); refine blk_put (cs := #[.int .i64 0, .int .i64 0, .int .i64 0, .int .i64 0, .int .u64 0]) ?_ 0 _ rfl; (with_reducible repeat (first | refine blk_drewN ?_ _ | refine blk_drew ?_ | refine blk_alloc ?_ _)); exact BK194.out) Try.underlying30 rfl (by kernel_rfl)) rfl ?_
    exact ⟨by first | rfl | (simp [errW_none, errW_some] <;> rfl) | (simp [*, errW_none, errW_some] <;> rfl), by repeat (first | (with_reducible first | exact HB.out | apply below_alloc | apply pw_below_drewN | apply below_drew1 | refine below_set ?_ GE194.out) | exact HB.out)⟩
  · rw [if_neg c2] at H
    have c2b0 : decide ((l0.length : Int) < 12) = false := decide_eq_false c2
    have c2b1 : decide (l0.length < 12) = false := decide_eq_false (by omega)
    clear c2
    by_cases c5 : 0 < (l0.length : Int)
    · rw [if_pos c5] at H
      have c5b0 : decide (0 < (l0.length : Int)) = true := decide_eq_true c5
      have c5b1 : decide (0 < l0.length) = true := decide_eq_true (by omega)
      clear c5
      by_cases c6 : 1 < (l0.length : Int)
      · rw [if_pos c6] at H
        have c6b0 : decide (1 < (l0.length : Int)) = true := decide_eq_true c6
        have c6b1 : decide (1 < l0.length) = true := decide_eq_true (by omega)
        clear c6
        by_cases c7 : 2 < (l0.length : Int)
        · rw [if_pos c7] at H
          have c7b0 : decide (2 < (l0.length : Int)) = true := decide_eq_true c7
          have c7b1 : decide (2 < l0.length) = true := decide_eq_true (by omega)
          clear c7
          by_cases c8 : 3 < (l0.length : Int)
          · rw [if_pos c8] at H
            have c8b0 : decide (3 < (l0.length : Int)) = true := decide_eq_true c8
            have c8b1 : decide (3 < l0.length) = true := decide_eq_true (by omega)
            clear c8
            by_cases c9 : 4 ≤ 12
            · rw [if_pos c9] at H
              have c9b0 := eq_true c9
              have c9b1 : decide (4 ≤ 12) = true := decide_eq_true c9
              clear c9
              by_cases c10 : 12 ≤ (l0.length : Int)
              · rw [if_pos c10] at H
                have c10b0 := eq_true c10
                have c10b1 : decide (12 ≤ (l0.length : Int)) = true := decide_eq_true c10
                clear c10
                obtain ⟨y200, hy200⟩ : ∃ y_ : List Int, y_ = ((l0.take 12).drop 4) := ⟨_, rfl⟩
                replace H : (code_Get.l0 k y200 (y200.length : Int) 0 (wrap64 (rd l0 0)) (wrap64 (rd l0 1)) (wrap64 (rd l0 2)) (wrap64 (rd l0 3)) 0) = some (r1, r2, r3, r4, r5, r6, r7) := by first | (rw [hy200]; with_reducible exact H) | (have H2_ := (Option.bind_some _ _).symm.trans H; rw [hy200]; with_reducible exact H2_) | (have H2_ := (Option.bind_some _ _).symm.trans H; with_reducible exact H2_) | with_reducible exact H | (rw [hy200]; exact H) | exact H
                have Ny200 := Aside0.mk hy200
                clear hy200
                have H' := Aside0.mk H
                clear H
                go_enter Try.func16, Try.ntmps16
                try go_wp2_with (first | ((with_reducible refine gate_dst (N := 2) rfl ?_); refine box_event ?hg (N := 2) ?hd (cs := #[.int .i64 0, .int .i64 0, .int .i64 0, .int .i64 0, .int .u64 0]) (t := 30) ?hr ?_; (case hd => rfl); (case hg => rfl); (case hr => first | (go_simp; done) | (go_simp; rfl)); intro gb194 hg w11 hbox hb; have n0_ := Aside0.mk (below_step (by repeat (first | (with_reducible first | exact HB.out | apply below_alloc | apply pw_below_drewN | apply below_drew1) | exact HB.out)) hb); have n1_ := Aside0.mk (hbox); have n2_ := Aside0.mk ((by rw [hg]; exact (below_size (by repeat (first | (with_reducible first | exact HB.out | apply below_alloc | apply pw_below_drewN | apply below_drew1) | exact HB.out))) : w.heap.size ≤ gb194)); have n3_ := Aside0.mk ((by rw [hg]; exact (below_size (by repeat (first | (with_reducible first | exact HB.out | apply below_alloc | apply pw_below_drewN | apply below_drew1) | exact HB.out))) : w.heap.size ≤ gb194)); clear HB; have HB := n0_; have BK194 := n1_; have GW194 := n2_; have GE194 := n3_; clear n0_ n1_ n2_ n3_; clear hb hbox hg))
                have n0_ := Aside0.mk (blk_drew BK194.out)
                have n1_ := Aside0.mk (below_drew1 HB.out)
                clear BK194
                clear HB
                have BK194 := n0_
                have HB := n1_
                clear n0_ n1_
                have p195 : 0 ≤ (0 : Int) := (by omega)
                have q195 : 0 < (l0.length : Int) := of_decide_eq_true (by first | (with_reducible assumption) | assumption)
                obtain ⟨ad195, e195, hx195_0⟩ := Kd.at_int HR0.out 0 p195 q195
                have hw195_0 := hx195_0
                (try rw [show ((0 : Int)).toNat = 0 from rfl] at hw195_0)
                (try rw [show 0 * 1 = 0 from rfl] at hw195_0)
                (try rw [Addr.add_zero'] at hw195_0)
                cases e195
                have qi195 : (0 < l0.length) = True := eq_true (by omega)
                (try rw [show ((0 : Int)).toNat = 0 from rfl] at hx195_0)
                (try rw [Addr.add_zero'] at hx195_0)
                replace hx195_0 := (HB.out.cell (World.block_lt_of_cell? w _ hx195_0)).trans hx195_0
                replace p195 := eq_true p195
                replace q195 := eq_true q195
                have p196 : 0 ≤ (1 : Int) := (by omega)
                have q196 : 1 < (l0.length : Int) := of_decide_eq_true (by first | (with_reducible assumption) | assumption)
                obtain ⟨ad196, e196, hx196_0⟩ := Kd.at_int HR0.out 1 p196 q196
                have hw196_0 := hx196_0
                (try rw [show ((1 : Int)).toNat = 1 from rfl] at hw196_0)
                (try rw [show 1 * 1 = 1 from rfl] at hw196_0)
                (try simp only [Nat.reduceMul, Nat.reduceEqDiff, Go.Addr.add, ↓reduceIte] at hw196_0)
                obtain rfl : ad195 = ad196 := (by injection e196)
                (try simp only [show (1 : Int).toNat = 1 from rfl, Nat.reduceMul, Nat.reduceEqDiff, Go.Addr.add, ↓reduceIte] at hx196_0)
                have qi196 : (1 < l0.length) = True := eq_true (by omega)
                (try rw [show ((1 : Int)).toNat = 1 from rfl] at hx196_0)
                replace hx196_0 := (HB.out.cell (World.block_lt_of_cell? w _ hx196_0)).trans hx196_0
                replace p196 := eq_true p196
                replace q196 := eq_true q196
                have p197 : 0 ≤ (2 : Int) := (by omega)
                have q197 : 2 < (l0.length : Int) := of_decide_eq_true (by first | (with_reducible assumption) | assumption)
                obtain ⟨ad197, e197, hx197_0⟩ := Kd.at_int HR0.out 2 p197 q197
                have hw197_0 := hx197_0
                (try rw [show ((2 : Int)).toNat = 2 from rfl] at hw197_0)
                (try rw [show 2 * 1 = 2 from rfl] at hw197_0)
                (try simp only [Nat.reduceMul, Nat.reduceEqDiff, Go.Addr.add, ↓reduceIte] at hw197_0)
                obtain rfl : ad195 = ad197 := (by injection e197)
                (try simp only [show (2 : Int).toNat = 2 from rfl, Nat.reduceMul, Nat.reduceEqDiff, Go.Addr.add, ↓reduceIte] at hx197_0)
                have qi197 : (2 < l0.length) = True := eq_true (by omega)
                (try rw [show ((2 : Int)).toNat = 2 from rfl] at hx197_0)
                replace hx197_0 := (HB.out.cell (World.block_lt_of_cell? w _ hx197_0)).trans hx197_0
                replace p197 := eq_true p197
                replace q197 := eq_true q197
                have p198 : 0 ≤ (3 : Int) := (by omega)
                have q198 : 3 < (l0.length : Int) := of_decide_eq_true (by first | (with_reducible assumption) | assumption)
                obtain ⟨ad198, e198, hx198_0⟩ := Kd.at_int HR0.out 3 p198 q198
                have hw198_0 := hx198_0
                (try rw [show ((3 : Int)).toNat = 3 from rfl] at hw198_0)
                (try rw [show 3 * 1 = 3 from rfl] at hw198_0)
                (try simp only [Nat.reduceMul, Nat.reduceEqDiff, Go.Addr.add, ↓reduceIte] at hw198_0)
                obtain rfl : ad195 = ad198 := (by injection e198)
                (try simp only [show (3 : Int).toNat = 3 from rfl, Nat.reduceMul, Nat.reduceEqDiff, Go.Addr.add, ↓reduceIte] at hx198_0)
                have qi198 : (3 < l0.length) = True := eq_true (by omega)
                (try rw [show ((3 : Int)).toNat = 3 from rfl] at hx198_0)
                replace hx198_0 := (HB.out.cell (World.block_lt_of_cell? w _ hx198_0)).trans hx198_0
                replace p198 := eq_true p198
                replace q198 := eq_true q198
                refine start_ (n := 19) (S := fun w' => w'.cell? ad195 = some (.int .u8 (rd l0 0)) ∧ w'.cell? ⟨ad195.block, ad195.off + 1, none⟩ = some (.int .u8 (rd l0 1)) ∧ w'.cell? ⟨ad195.block, ad195.off + 2, none⟩ = some (.int .u8 (rd l0 2)) ∧ w'.cell? ⟨ad195.block, ad195.off + 3, none⟩ = some (.int .u8 (rd l0 3))) (ds := []) #[false, false, false, false, false, false, false, false, false, false, false, false, false, false, false, false, false, false, false] (by kernel_rfl) rfl rfl ⟨((HB.out.cell (World.block_lt_of_cell? w _ hw195_0)).trans hw195_0), ((HB.out.cell (World.block_lt_of_cell? w _ hw196_0)).trans hw196_0), ((HB.out.cell (World.block_lt_of_cell? w _ hw197_0)).trans hw197_0), ((HB.out.cell (World.block_lt_of_cell? w _ hw198_0)).trans hw198_0)⟩ (fun hHeld => ?_); refine with_tabW code_Get.tab3 code_Get.bits3 (fun HT_ HW_ => ?_)
                generalize w11.drew = w12 at BK194 HB hx195_0 hx196_0 hx197_0 hx198_0 hHeld ⊢
                refine pure_ (i := 0) (N := some 15) (v := ?_) (a' := ?_) #[true, false, false, false, false, false, false, false, false, false, false, false, false, false, false, false, false, false, false] rfl rfl (any_of HT_.out (by kernel_rfl)) (fun _ _ _ h => h) (Or.inl ⟨by rfl, ?_⟩) ?_ ?_
                rotate_left
                · intro w'
                  go_simp
                  with_reducible rfl
                rotate_left
                · simp only [Act.put, List.setIfInBounds_toArray, List.set_cons_zero, List.set_cons_succ, i64_w, i32_w]
                  rfl
                refine pure_ (i := 1) (N := some 16) (v := ?_) (a' := ?_) #[true, true, false, false, false, false, false, false, false, false, false, false, false, false, false, false, false, false, false] rfl rfl (any_of HT_.out (by kernel_rfl)) (fun _ _ _ h => h) (Or.inl ⟨by rfl, ?_⟩) ?_ ?_
                rotate_left
                · intro w'
                  go_simp
                  with_reducible rfl
                rotate_left
                · simp only [Act.put, List.setIfInBounds_toArray, List.set_cons_zero, List.set_cons_succ, i64_w, i32_w]
                  rfl
                refine pure_ (i := 4) (N := some 19) (v := ?_) (a' := ?_) #[true, true, false, false, true, false, false, false, false, false, false, false, false, false, false, false, false, false, false] rfl rfl (any_of HT_.out (by kernel_rfl)) (fun _ _ _ h => h) (Or.inl ⟨by rfl, ?_⟩) ?_ ?_
                rotate_left
                · intro w'
                  go_simp
                  with_reducible rfl
                rotate_left
                · simp only [Act.put, List.setIfInBounds_toArray, List.set_cons_zero, List.set_cons_succ, i64_w, i32_w]
                  rfl
                refine pure_ (i := 5) (N := some 20) (v := ?_) (a' := ?_) #[true, true, false, false, true, true, false, false, false, false, false, false, false, false, false, false, false, false, false] rfl rfl (any_of HT_.out (by kernel_rfl)) (fun _ _ _ h => h) (Or.inl ⟨by rfl, ?_⟩) ?_ ?_
                rotate_left
                · intro w'
                  go_simp
                  with_reducible rfl
                rotate_left
                · simp only [Act.put, List.setIfInBounds_toArray, List.set_cons_zero, List.set_cons_succ, i64_w, i32_w]
                  rfl
                refine pure_ (i := 8) (N := some 23) (v := ?_) (a' := ?_) #[true, true, false, false, true, true, false, false, true, false, false, false, false, false, false, false, false, false, false] rfl rfl (any_of HT_.out (by kernel_rfl)) (fun _ _ _ h => h) (Or.inl ⟨by rfl, ?_⟩) ?_ ?_
                rotate_left
                · intro w'
                  go_simp
                  with_reducible rfl
                rotate_left
                · simp only [Act.put, List.setIfInBounds_toArray, List.set_cons_zero, List.set_cons_succ, i64_w, i32_w]
                  rfl
                refine pure_ (i := 9) (N := some 24) (v := ?_) (a' := ?_) #[true, true, false, false, true, true, false, false, true, true, false, false, false, false, false, false, false, false, false] rfl rfl (any_of HT_.out (by kernel_rfl)) (fun _ _ _ h => h) (Or.inl ⟨by rfl, ?_⟩) ?_ ?_
                rotate_left
                · intro w'
                  go_simp
                  with_reducible rfl
                rotate_left
                · simp only [Act.put, List.setIfInBounds_toArray, List.set_cons_zero, List.set_cons_succ, i64_w, i32_w]
                  rfl
                refine pure_ (i := 12) (N := some 27) (v := ?_) (a' := ?_) #[true, true, false, false, true, true, false, false, true, true, false, false, true, false, false, false, false, false, false] rfl rfl (any_of HT_.out (by kernel_rfl)) (fun _ _ _ h => h) (Or.inl ⟨by rfl, ?_⟩) ?_ ?_
                rotate_left
                · intro w'
                  go_simp
                  with_reducible rfl
                rotate_left
                · simp only [Act.put, List.setIfInBounds_toArray, List.set_cons_zero, List.set_cons_succ, i64_w, i32_w]
                  rfl
                refine pure_ (i := 13) (N := some 28) (v := ?_) (a' := ?_) #[true, true, false, false, true, true, false, false, true, true, false, false, true, true, false, false, false, false, false] rfl rfl (any_of HT_.out (by kernel_rfl)) (fun _ _ _ h => h) (Or.inl ⟨by rfl, ?_⟩) ?_ ?_
                rotate_left
                · intro w'
                  go_simp
                  with_reducible rfl
                rotate_left
                · simp only [Act.put, List.setIfInBounds_toArray, List.set_cons_zero, List.set_cons_succ, i64_w, i32_w]
                  rfl
                refine take_ (i := 2) (N := some 17) (v := ?_) (a' := ?_) #[true, true, true, false, true, true, false, false, true, true, false, false, true, true, false, false, false, false, false] rfl rfl (take_ofW HT_.out HW_.out (by kernel_rfl)) (fun _ _ _ h => h) (Or.inl ⟨by rfl, ?_⟩) hHeld ?_ ?_
                rotate_left
                · rintro w' ⟨s0, s1, s2, s3⟩
                  go_simp
                  with_reducible rfl
                rotate_left
                · simp only [Act.put, List.setIfInBounds_toArray, List.set_cons_zero, List.set_cons_succ, i64_w, i32_w]
                  rfl
                refine pure_ (i := 3) (N := some 18) (v := ?_) (a' := ?_) #[true, true, true, true, true, true, false, false, true, true, false, false, true, true, false, false, false, false, false] rfl rfl (any_of HT_.out (by kernel_rfl)) (fun _ _ _ h => h) (Or.inl ⟨by rfl, ?_⟩) ?_ ?_
                rotate_left
                · intro w'
                  go_simp
                  with_reducible rfl
                rotate_left
                · simp only [Act.put, List.setIfInBounds_toArray, List.set_cons_zero, List.set_cons_succ, i64_w, i32_w]
                  rfl
                refine take_ (i := 6) (N := some 21) (v := ?_) (a' := ?_) #[true, true, true, true, true, true, true, false, true, true, false, false, true, true, false, false, false, false, false] rfl rfl (take_ofW HT_.out HW_.out (by kernel_rfl)) (fun _ _ _ h => h) (Or.inl ⟨by rfl, ?_⟩) hHeld ?_ ?_
                rotate_left
                · rintro w' ⟨s0, s1, s2, s3⟩
                  go_simp
                  with_reducible rfl
                rotate_left
                · simp only [Act.put, List.setIfInBounds_toArray, List.set_cons_zero, List.set_cons_succ, i64_w, i32_w]
                  rfl
                refine pure_ (i := 7) (N := some 22) (v := ?_) (a' := ?_) #[true, true, true, true, true, true, true, true, true, true, false, false, true, true, false, false, false, false, false] rfl rfl (any_of HT_.out (by kernel_rfl)) (fun _ _ _ h => h) (Or.inl ⟨by rfl, ?_⟩) ?_ ?_
                rotate_left
                · intro w'
                  go_simp
                  with_reducible rfl
                rotate_left
                · simp only [Act.put, List.setIfInBounds_toArray, List.set_cons_zero, List.set_cons_succ, i64_w, i32_w]
                  rfl
                refine take_ (i := 10) (N := some 25) (v := ?_) (a' := ?_) #[true, true, true, true, true, true, true, true, true, true, true, false, true, true, false, false, false, false, false] rfl rfl (take_ofW HT_.out HW_.out (by kernel_rfl)) (fun _ _ _ h => h) (Or.inl ⟨by rfl, ?_⟩) hHeld ?_ ?_
                rotate_left
                · rintro w' ⟨s0, s1, s2, s3⟩
                  go_simp
                  with_reducible rfl
                rotate_left
                · simp only [Act.put, List.setIfInBounds_toArray, List.set_cons_zero, List.set_cons_succ, i64_w, i32_w]
                  rfl
                refine pure_ (i := 11) (N := some 26) (v := ?_) (a' := ?_) #[true, true, true, true, true, true, true, true, true, true, true, true, true, true, false, false, false, false, false] rfl rfl (any_of HT_.out (by kernel_rfl)) (fun _ _ _ h => h) (Or.inl ⟨by rfl, ?_⟩) ?_ ?_
                rotate_left
                · intro w'
                  go_simp
                  with_reducible rfl
                rotate_left
                · simp only [Act.put, List.setIfInBounds_toArray, List.set_cons_zero, List.set_cons_succ, i64_w, i32_w]
                  rfl
                refine take_ (i := 14) (N := some 29) (v := ?_) (a' := ?_) #[true, true, true, true, true, true, true, true, true, true, true, true, true, true, true, false, false, false, false] rfl rfl (take_ofW HT_.out HW_.out (by kernel_rfl)) (fun _ _ _ h => h) (Or.inl ⟨by rfl, ?_⟩) hHeld ?_ ?_
                rotate_left
                · rintro w' ⟨s0, s1, s2, s3⟩
                  go_simp
                  with_reducible rfl
                rotate_left
                · simp only [Act.put, List.setIfInBounds_toArray, List.set_cons_zero, List.set_cons_succ, i64_w, i32_w]
                  rfl
                refine pure_ (i := 15) (N := some 30) (v := ?_) (a' := ?_) #[true, true, true, true, true, true, true, true, true, true, true, true, true, true, true, true, false, false, false] rfl rfl (any_of HT_.out (by kernel_rfl)) (fun _ _ _ h => h) (Or.inl ⟨by rfl, ?_⟩) ?_ ?_
                rotate_left
                · intro w'
                  go_simp
                  with_reducible rfl
                rotate_left
                · simp only [Act.put, List.setIfInBounds_toArray, List.set_cons_zero, List.set_cons_succ, i64_w, i32_w]
                  rfl
                refine pure_ (i := 16) (N := some 31) (v := ?_) (a' := ?_) #[true, true, true, true, true, true, true, true, true, true, true, true, true, true, true, true, true, false, false] rfl rfl (any_of HT_.out (by kernel_rfl)) (fun _ _ _ h => h) (Or.inl ⟨by rfl, ?_⟩) ?_ ?_
                rotate_left
                · intro w'
                  go_simp
                  with_reducible rfl
                rotate_left
                · simp only [Act.put, List.setIfInBounds_toArray, List.set_cons_zero, List.set_cons_succ, i64_w, i32_w]
                  rfl
                refine one_ (i := 17) (N := some 5) #[true, true, true, true, true, true, true, true, true, true, true, true, true, true, true, true, true, true, false] rfl rfl (one_of HT_.out (by kernel_rfl)) (by decide) (fun K hK => ?_)
                refine box_step ?hg (N := 5) ?hd (cs := #[.int .i64 0, .int .i64 0, .int .i64 0, .int .i64 0, .int .u64 0]) (t := 30) ?hr ?_; (case hd => rfl); (case hg => rfl); (case hr => first | (go_simp; done) | (go_simp; rfl))
                intro gb199 hg w13 hbox hb
                have n0_ := Aside0.mk (blk_below (g := gb194) (o := .cells #[.int .i64 0, .int .i64 0, .int .i64 0, .int .i64 0, .int .u64 0] 30 (0, 0)) (by (with_reducible repeat (first | refine blk_drewN ?_ _ | refine blk_drew ?_ | refine blk_alloc ?_ _)); exact BK194.out) hb)
                have n1_ := Aside0.mk (below_step (by repeat (first | (with_reducible first | exact HB.out | apply below_alloc | apply pw_below_drewN | apply below_drew1 | refine below_set ?_ GE194.out) | exact HB.out)) hb)
                have n2_ := Aside0.mk (hbox)
                have n3_ := Aside0.mk ((by rw [hg]; exact (below_size (by repeat (first | (with_reducible first | exact HB.out | apply below_alloc | apply pw_below_drewN | apply below_drew1 | refine below_set ?_ GE194.out) | exact HB.out))) : w.heap.size ≤ gb199))
                have n4_ := Aside0.mk ((by rw [hg]; exact (below_size (by repeat (first | (with_reducible first | exact HB.out | apply below_alloc | apply pw_below_drewN | apply below_drew1 | refine below_set ?_ GE194.out) | exact HB.out))) : w.heap.size ≤ gb199))
                have n5_ := Aside0.mk ((by rw [hg]; exact Nat.ne_of_lt (blk_lt (g := gb194) (o := .cells #[.int .i64 0, .int .i64 0, .int .i64 0, .int .i64 0, .int .u64 0] 30 (0, 0)) (by (with_reducible repeat (first | refine blk_drewN ?_ _ | refine blk_drew ?_ | refine blk_alloc ?_ _)); exact BK194.out)) : gb194 ≠ gb199))
                have n6_ := Aside0.mk ((by rw [hg]; exact Nat.ne_of_gt (blk_lt (g := gb194) (o := .cells #[.int .i64 0, .int .i64 0, .int .i64 0, .int .i64 0, .int .u64 0] 30 (0, 0)) (by (with_reducible repeat (first | refine blk_drewN ?_ _ | refine blk_drew ?_ | refine blk_alloc ?_ _)); exact BK194.out)) : gb199 ≠ gb194))
                clear BK194
                clear HB
                have BK194 := n0_
                have HB := n1_
                have BK199 := n2_
                have GW199 := n3_
                have GE199 := n4_
                have NB194_199 := n5_
                have NB199_194 := n6_
                clear n0_ n1_ n2_ n3_ n4_ n5_ n6_
                clear hb hbox hg
                refine hK.out _ _ ⟨((HB.out.cell (World.block_lt_of_cell? w _ hw195_0)).trans hw195_0), ((HB.out.cell (World.block_lt_of_cell? w _ hw196_0)).trans hw196_0), ((HB.out.cell (World.block_lt_of_cell? w _ hw197_0)).trans hw197_0), ((HB.out.cell (World.block_lt_of_cell? w _ hw198_0)).trans hw198_0)⟩ (fun hHeld => ?_)
                clear hK K
                refine norm_ (a' := ?_) ?_ ?_
                rotate_left
                · show Act.put _ (some 5) _ = _
                  simp only [Act.put, List.setIfInBounds_toArray, List.set_cons_zero, List.set_cons_succ, i64_w, i32_w]
                  rfl
                refine one_ (i := 18) (N := none) #[true, true, true, true, true, true, true, true, true, true, true, true, true, true, true, true, true, true, true] rfl rfl (one_of HT_.out (by kernel_rfl)) (by decide) (fun K hK => ?_)
                have hs14 : w13.cell? ⟨gb199, 0, none⟩ = some (.int .i64 0) := (blk_cell BK199.out 0).trans rfl
                have hfs14 := blk_frozen BK199.out 0
                have hns14_0 := NB194_199.out
                have hms14_0 := NB199_194.out
                have hs15 : w13.cell? ⟨gb199, 1, none⟩ = some (.int .i64 0) := (blk_cell BK199.out 1).trans rfl
                have hfs15 := blk_frozen BK199.out 1
                have hns15_0 := NB194_199.out
                have hms15_0 := NB199_194.out
                have hs16 : w13.cell? ⟨gb199, 2, none⟩ = some (.int .i64 0) := (blk_cell BK199.out 2).trans rfl
                have hfs16 := blk_frozen BK199.out 2
                have hns16_0 := NB194_199.out
                have hms16_0 := NB199_194.out
                have hs17 : w13.cell? ⟨gb199, 3, none⟩ = some (.int .i64 0) := (blk_cell BK199.out 3).trans rfl
                have hfs17 := blk_frozen BK199.out 3
                have hns17_0 := NB194_199.out
                have hms17_0 := NB199_194.out
                have hs18 : w13.cell? ⟨gb199, 4, none⟩ = some (.int .u64 0) := (blk_cell BK199.out 4).trans rfl
                have hfs18 := blk_frozen BK199.out 4
                have hns18_0 := NB194_199.out
                have hms18_0 := NB199_194.out
                refine skip_ (w1 := ?_) (by rfl) rfl ?_ ?_
                rotate_left
                · go_simp
                  rfl
                refine hK.out _ _ ⟨((cell_far (p := ⟨gb199, _, none⟩) (by first | exact Nat.ne_of_lt (Nat.lt_of_lt_of_le (by have := World.block_lt_of_cell? _ _ hw195_0; first | rwa [add_block] at this | exact this) GW199.out) | (rw [add_block]; exact Nat.ne_of_lt (Nat.lt_of_lt_of_le (by have := World.block_lt_of_cell? _ _ hw195_0; first | rwa [add_block] at this | exact this) GW199.out)) | (show (Addr.add _ _).block ≠ _; rw [add_block]; exact Nat.ne_of_lt (Nat.lt_of_lt_of_le (by have := World.block_lt_of_cell? _ _ hw195_0; first | rwa [add_block] at this | exact this) GW199.out)) | (dsimp only; exact Nat.ne_of_lt (Nat.lt_of_lt_of_le (by have := World.block_lt_of_cell? _ _ hw195_0; first | rwa [add_block] at this | exact this) GW199.out))) _).trans (((cell_far (p := ⟨gb199, _, none⟩) (by first | exact Nat.ne_of_lt (Nat.lt_of_lt_of_le (by have := World.block_lt_of_cell? _ _ hw195_0; first | rwa [add_block] at this | exact this) GW199.out) | (rw [add_block]; exact Nat.ne_of_lt (Nat.lt_of_lt_of_le (by have := World.block_lt_of_cell? _ _ hw195_0; first | rwa [add_block] at this | exact this) GW199.out)) | (show (Addr.add _ _).block ≠ _; rw [add_block]; exact Nat.ne_of_lt (Nat.lt_of_lt_of_le (by have := World.block_lt_of_cell? _ _ hw195_0; first | rwa [add_block] at this | exact this) GW199.out)) | (dsimp only; exact Nat.ne_of_lt (Nat.lt_of_lt_of_le (by have := World.block_lt_of_cell? _ _ hw195_0; first | rwa [add_block] at this | exact this) GW199.out))) _).trans (((cell_far (p := ⟨gb199, _, none⟩) (by first | exact Nat.ne_of_lt (Nat.lt_of_lt_of_le (by have := World.block_lt_of_cell? _ _ hw195_0; first | rwa [add_block] at this | exact this) GW199.out) | (rw [add_block]; exact Nat.ne_of_lt (Nat.lt_of_lt_of_le (by have := World.block_lt_of_cell? _ _ hw195_0; first | rwa [add_block] at this | exact this) GW199.out)) | (show (Addr.add _ _).block ≠ _; rw [add_block]; exact Nat.ne_of_lt (Nat.lt_of_lt_of_le (by have := World.block_lt_of_cell? _ _ hw195_0; first | rwa [add_block] at this | exact this) GW199.out)) | (dsimp only; exact Nat.ne_of_lt (Nat.lt_of_lt_of_le (by have := World.block_lt_of_cell? _ _ hw195_0; first | rwa [add_block] at this | exact this) GW199.out))) _).trans (((cell_far (p := ⟨gb199, _, none⟩) (by first | exact Nat.ne_of_lt (Nat.lt_of_lt_of_le (by have := World.block_lt_of_cell? _ _ hw195_0; first | rwa [add_block] at this | exact this) GW199.out) | (rw [add_block]; exact Nat.ne_of_lt (Nat.lt_of_lt_of_le (by have := World.block_lt_of_cell? _ _ hw195_0; first | rwa [add_block] at this | exact this) GW199.out)) | (show (Addr.add _ _).block ≠ _; rw [add_block]; exact Nat.ne_of_lt (Nat.lt_of_lt_of_le (by have := World.block_lt_of_cell? _ _ hw195_0; first | rwa [add_block] at this | exact this) GW199.out)) | (dsimp only; exact Nat.ne_of_lt (Nat.lt_of_lt_of_le (by have := World.block_lt_of_cell? _ _ hw195_0; first | rwa [add_block] at this | exact this) GW199.out))) _).trans (((cell_far (p := ⟨gb199, _, none⟩) (by first | exact Nat.ne_of_lt (Nat.lt_of_lt_of_le (by have := World.block_lt_of_cell? _ _ hw195_0; first | rwa [add_block] at this | exact this) GW199.out) | (rw [add_block]; exact Nat.ne_of_lt (Nat.lt_of_lt_of_le (by have := World.block_lt_of_cell? _ _ hw195_0; first | rwa [add_block] at this | exact this) GW199.out)) | (show (Addr.add _ _).block ≠ _; rw [add_block]; exact Nat.ne_of_lt (Nat.lt_of_lt_of_le (by have := World.block_lt_of_cell? _ _ hw195_0; first | rwa [add_block] at this | exact this) GW199.out)) | (dsimp only; exact Nat.ne_of_lt (Nat.lt_of_lt_of_le (by have := World.block_lt_of_cell? _ _ hw195_0; first | rwa [add_block] at this | exact this) GW199.out))) _).trans (hHeld.1)))))))))), ((cell_far (p := ⟨gb199, _, none⟩) (by first | exact Nat.ne_of_lt (Nat.lt_of_lt_of_le (by have := World.block_lt_of_cell? _ _ hw196_0; first | rwa [add_block] at this | exact this) GW199.out) | (rw [add_block]; exact Nat.ne_of_lt (Nat.lt_of_lt_of_le (by have := World.block_lt_of_cell? _ _ hw196_0; first | rwa [add_block] at this | exact this) GW199.out)) | (show (Addr.add _ _).block ≠ _; rw [add_block]; exact Nat.ne_of_lt (Nat.lt_of_lt_of_le (by have := World.block_lt_of_cell? _ _ hw196_0; first | rwa [add_block] at this | exact this) GW199.out)) | (dsimp only; exact Nat.ne_of_lt (Nat.lt_of_lt_of_le (by have := World.block_lt_of_cell? _ _ hw196_0; first | rwa [add_block] at this | exact this) GW199.out))) _).trans (((cell_far (p := ⟨gb199, _, none⟩) (by first | exact Nat.ne_of_lt (Nat.lt_of_lt_of_le (by have := World.block_lt_of_cell? _ _ hw196_0; first | rwa [add_block] at this | exact this) GW199.out) | (rw [add_block]; exact Nat.ne_of_lt (Nat.lt_of_lt_of_le (by have := World.block_lt_of_cell? _ _ hw196_0; first | rwa [add_block] at this | exact this) GW199.out)) | (show (Addr.add _ _).block ≠ _; rw [add_block]; exact Nat.ne_of_lt (Nat.lt_of_lt_of_le (by have := World.block_lt_of_cell? _ _ hw196_0; first | rwa [add_block] at this | exact this) GW199.out)) | (dsimp only; exact Nat.ne_of_lt (Nat.lt_of_lt_of_le (by have := World.block_lt_of_cell? _ _ hw196_0; first | rwa [add_block] at this | exact this) GW199.out))) _).trans (((cell_far (p := ⟨gb199, _, none⟩) (by first | exact Nat.ne_of_lt (Nat.lt_of_lt_of_le (by have := World.block_lt_of_cell? _ _ hw196_0; first | rwa [add_block] at this | exact this) GW199.out) | (rw [add_block]; exact Nat.ne_of_lt (Nat.lt_of_lt_of_le (by have := World.block_lt_of_cell? _ _ hw196_0; first | rwa [add_block] at this | exact this) GW199.out)) | (show (Addr.add _ _).block ≠ _; rw [add_block]; exact Nat.ne_of_lt (Nat.lt_of_lt_of_le (by have := World.block_lt_of_cell? _ _ hw196_0; first | rwa [add_block] at this | exact this) GW199.out)) | (dsimp only; exact Nat.ne_of_lt (Nat.lt_of_lt_of_le (by have := World.block_lt_of_cell? _ _ hw196_0; first | rwa [add_block] at this | exact this) GW199.out))) _).trans (((cell_far (p := ⟨gb199, _, none⟩) (by first | exact Nat.ne_of_lt (Nat.lt_of_lt_of_le (by have := World.block_lt_of_cell? _ _ hw196_0; first | rwa [add_block] at this | exact this) GW199.out) | (rw [add_block]; exact Nat.ne_of_lt (Nat.lt_of_lt_of_le (by have := World.block_lt_of_cell? _ _ hw196_0; first | rwa [add_block] at this | exact this) GW199.out)) | (show (Addr.add _ _).block ≠ _; rw [add_block]; exact Nat.ne_of_lt (Nat.lt_of_lt_of_le (by have := World.block_lt_of_cell? _ _ hw196_0; first | rwa [add_block] at this | exact this) GW199.out)) | (dsimp only; exact Nat.ne_of_lt (Nat.lt_of_lt_of_le (by have := World.block_lt_of_cell? _ _ hw196_0; first | rwa [add_block] at this | exact this) GW199.out))) _).trans (((cell_far (p := ⟨gb199, _, none⟩) (by first | exact Nat.ne_of_lt (Nat.lt_of_lt_of_le (by have := World.block_lt_of_cell? _ _ hw196_0; first | rwa [add_block] at this | exact this) GW199.out) | (rw [add_block]; exact Nat.ne_of_lt (Nat.lt_of_lt_of_le (by have := World.block_lt_of_cell? _ _ hw196_0; first | rwa [add_block] at this | exact this) GW199.out)) | (show (Addr.add _ _).block ≠ _; rw [add_block]; exact Nat.ne_of_lt (Nat.lt_of_lt_of_le (by have := World.block_lt_of_cell? _ _ hw196_0; first | rwa [add_block] at this | exact this) GW199.out)) | (dsimp only; exact Nat.ne_of_lt (Nat.lt_of_lt_of_le (by have := World.block_lt_of_cell? _ _ hw196_0; first | rwa [add_block] at this | exact this) GW199.out))) _).trans (hHeld.2.1)))))))))), ((cell_far (p := ⟨gb199, _, none⟩) (by first | exact Nat.ne_of_lt (Nat.lt_of_lt_of_le (by have := World.block_lt_of_cell? _ _ hw197_0; first | rwa [add_block] at this | exact this) GW199.out) | (rw [add_block]; exact Nat.ne_of_lt (Nat.lt_of_lt_of_le (by have := World.block_lt_of_cell? _ _ hw197_0; first | rwa [add_block] at this | exact this) GW199.out)) | (show (Addr.add _ _).block ≠ _; rw [add_block]; exact Nat.ne_of_lt (Nat.lt_of_lt_of_le (by have := World.block_lt_of_cell? _ _ hw197_0; first | rwa [add_block] at this | exact this) GW199.out)) | (dsimp only; exact Nat.ne_of_lt (Nat.lt_of_lt_of_le (by have := World.block_lt_of_cell? _ _ hw197_0; first | rwa [add_block] at this | exact this) GW199.out))) _).trans (((cell_far (p := ⟨gb199, _, none⟩) (by first | exact Nat.ne_of_lt (Nat.lt_of_lt_of_le (by have := World.block_lt_of_cell? _ _ hw197_0; first | rwa [add_block] at this | exact this) GW199.out) | (rw [add_block]; exact Nat.ne_of_lt (Nat.lt_of_lt_of_le (by have := World.block_lt_of_cell? _ _ hw197_0; first | rwa [add_block] at this | exact this) GW199.out)) | (show (Addr.add _ _).block ≠ _; rw [add_block]; exact Nat.ne_of_lt (Nat.lt_of_lt_of_le (by have := World.block_lt_of_cell? _ _ hw197_0; first | rwa [add_block] at this | exact this) GW199.out)) | (dsimp only; exact Nat.ne_of_lt (Nat.lt_of_lt_of_le (by have := World.block_lt_of_cell? _ _ hw197_0; first | rwa [add_block] at this | exact this) GW199.out))) _).trans (((cell_far (p := ⟨gb199, _, none⟩) (by first | exact Nat.ne_of_lt (Nat.lt_of_lt_of_le (by have := World.block_lt_of_cell? _ _ hw197_0; first | rwa [add_block] at this | exact this) GW199.out) | (rw [add_block]; exact Nat.ne_of_lt (Nat.lt_of_lt_of_le (by have := World.block_lt_of_cell? _ _ hw197_0; first | rwa [add_block] at this | exact this) GW199.out)) | (show (Addr.add _ _).block ≠ _; rw [add_block]; exact Nat.ne_of_lt (Nat.lt_of_lt_of_le (by have := World.block_lt_of_cell? _ _ hw197_0; first | rwa [add_block] at this | exact this) GW199.out)) | (dsimp only; exact Nat.ne_of_lt (Nat.lt_of_lt_of_le (by have := World.block_lt_of_cell? _ _ hw197_0; first | rwa [add_block] at this | exact this) GW199.out))) _).trans (((cell_far (p := ⟨gb199, _, none⟩) (by first | exact Nat.ne_of_lt (Nat.lt_of_lt_of_le (by have := World.block_lt_of_cell? _ _ hw197_0; first | rwa [add_block] at this | exact this) GW199.out) | (rw [add_block]; exact Nat.ne_of_lt (Nat.lt_of_lt_of_le (by have := World.block_lt_of_cell? _ _ hw197_0; first | rwa [add_block] at this | exact this) GW199.out)) | (show (Addr.add _ _).block ≠ _; rw [add_block]; exact Nat.ne_of_lt (Nat.lt_of_lt_of_le (by have := World.block_lt_of_cell? _ _ hw197_0; first | rwa [add_block] at this | exact this) GW199.out)) | (dsimp only; exact Nat.ne_of_lt (Nat.lt_of_lt_of_le (by have := World.block_lt_of_cell? _ _ hw197_0; first | rwa [add_block] at this | exact this) GW199.out))) _).trans (((cell_far (p := ⟨gb199, _, none⟩) (by first | exact Nat.ne_of_lt (Nat.lt_of_lt_of_le (by have := World.block_lt_of_cell? _ _ hw197_0; first | rwa [add_block] at this | exact this) GW199.out) | (rw [add_block]; exact Nat.ne_of_lt (Nat.lt_of_lt_of_le (by have := World.block_lt_of_cell? _ _ hw197_0; first | rwa [add_block] at this | exact this) GW199.out)) | (show (Addr.add _ _).block ≠ _; rw [add_block]; exact Nat.ne_of_lt (Nat.lt_of_lt_of_le (by have := World.block_lt_of_cell? _ _ hw197_0; first | rwa [add_block] at this | exact this) GW199.out)) | (dsimp only; exact Nat.ne_of_lt (Nat.lt_of_lt_of_le (by have := World.block_lt_of_cell? _ _ hw197_0; first | rwa [add_block] at this | exact this) GW199.out))) _).trans (hHeld.2.2.1)))))))))), ((cell_far (p := ⟨gb199, _, none⟩) (by first | exact Nat.ne_of_lt (Nat.lt_of_lt_of_le (by have := World.block_lt_of_cell? _ _ hw198_0; first | rwa [add_block] at this | exact this) GW199.out) | (rw [add_block]; exact Nat.ne_of_lt (Nat.lt_of_lt_of_le (by have := World.block_lt_of_cell? _ _ hw198_0; first | rwa [add_block] at this | exact this) GW199.out)) | (show (Addr.add _ _).block ≠ _; rw [add_block]; exact Nat.ne_of_lt (Nat.lt_of_lt_of_le (by have := World.block_lt_of_cell? _ _ hw198_0; first | rwa [add_block] at this | exact this) GW199.out)) | (dsimp only; exact Nat.ne_of_lt (Nat.lt_of_lt_of_le (by have := World.block_lt_of_cell? _ _ hw198_0; first | rwa [add_block] at this | exact this) GW199.out))) _).trans (((cell_far (p := ⟨gb199, _, none⟩) (by first | exact Nat.ne_of_lt (Nat.lt_of_lt_of_le (by have := World.block_lt_of_cell? _ _ hw198_0; first | rwa [add_block] at this | exact this) GW199.out) | (rw [add_block]; exact Nat.ne_of_lt (Nat.lt_of_lt_of_le (by have := World.block_lt_of_cell? _ _ hw198_0; first | rwa [add_block] at this | exact this) GW199.out)) | (show (Addr.add _ _).block ≠ _; rw [add_block]; exact Nat.ne_of_lt (Nat.lt_of_lt_of_le (by have := World.block_lt_of_cell? _ _ hw198_0; first | rwa [add_block] at this | exact this) GW199.out)) | (dsimp only; exact Nat.ne_of_lt (Nat.lt_of_lt_of_le (by have := World.block_lt_of_cell? _ _ hw198_0; first | rwa [add_block] at this | exact this) GW199.out))) _).trans (((cell_far (p := ⟨gb199, _, none⟩) (by first | exact Nat.ne_of_lt (Nat.lt_of_lt_of_le (by have := World.block_lt_of_cell? _ _ hw198_0; first | rwa [add_block] at this | exact this) GW199.out) | (rw [add_block]; exact Nat.ne_of_lt (Nat.lt_of_lt_of_le (by have := World.block_lt_of_cell? _ _ hw198_0; first | rwa [add_block] at this | exact this) GW199.out)) | (show (Addr.add _ _).block ≠ _; rw [add_block]; exact Nat.ne_of_lt (Nat.lt_of_lt_of_le (by have := World.block_lt_of_cell? _ _ hw198_0; first | rwa [add_block] at this | exact this) GW199.out)) | (dsimp only; exact Nat.ne_of_lt (Nat.lt_of_lt_of_le (by have := World.block_lt_of_cell? _ _ hw198_0; first | rwa [add_block] at this | exact this) GW199.out))) _).trans (((cell_far (p := ⟨gb199, _, none⟩) (by first | exact Nat.ne_of_lt (Nat.lt_of_lt_of_le (by have := World.block_lt_of_cell? _ _ hw198_0; first | rwa [add_block] at this | exact this) GW199.out) | (rw [add_block]; exact Nat.ne_of_lt (Nat.lt_of_lt_of_le (by have := World.block_lt_of_cell? _ _ hw198_0; first | rwa [add_block] at this | exact this) GW199.out)) | (show (Addr.add _ _).block ≠ _; rw [add_block]; exact Nat.ne_of_lt (Nat.lt_of_lt_of_le (by have := World.block_lt_of_cell? _ _ hw198_0; first | rwa [add_block] at this | exact this) GW199.out)) | (dsimp only; exact Nat.ne_of_lt (Nat.lt_of_lt_of_le (by have := World.block_lt_of_cell? _ _ hw198_0; first | rwa [add_block] at this | exact this) GW199.out))) _).trans (((cell_far (p := ⟨gb199, _, none⟩) (by first | exact Nat.ne_of_lt (Nat.lt_of_lt_of_le (by have := World.block_lt_of_cell? _ _ hw198_0; first | rwa [add_block] at this | exact this) GW199.out) | (rw [add_block]; exact Nat.ne_of_lt (Nat.lt_of_lt_of_le (by have := World.block_lt_of_cell? _ _ hw198_0; first | rwa [add_block] at this | exact this) GW199.out)) | (show (Addr.add _ _).block ≠ _; rw [add_block]; exact Nat.ne_of_lt (Nat.lt_of_lt_of_le (by have := World.block_lt_of_cell? _ _ hw198_0; first | rwa [add_block] at this | exact this) GW199.out)) | (dsimp only; exact Nat.ne_of_lt (Nat.lt_of_lt_of_le (by have := World.block_lt_of_cell? _ _ hw198_0; first | rwa [add_block] at this | exact this) GW199.out))) _).trans (hHeld.2.2.2))))))))))⟩ (fun hHeld => ?_)
                clear hK K
                refine done_ (done_of HT_.out (by kernel_rfl)) ?_
                have n0_ : Aside0 ((((((w13.setCell ⟨gb199, 0, none⟩ (.int .i64 (wrap64 (rd l0 0)))).setCell ⟨gb199, 1, none⟩ (.int .i64 (wrap64 (rd l0 1)))).setCell ⟨gb199, 2, none⟩ (.int .i64 (wrap64 (rd l0 2)))).setCell ⟨gb199, 3, none⟩ (.int .i64 (wrap64 (rd l0 3)))).setCell ⟨gb199, 4, none⟩ (.int .u64 0)).heap[gb194]? = some (.cells #[.int .i64 0, .int .i64 0, .int .i64 0, .int .i64 0, .int .u64 0] 30 (0, 0))) := ⟨by (with_reducible repeat (first | refine blk_drewN ?_ _ | refine blk_drew ?_ | refine blk_alloc ?_ _)); refine blk_far ?_ NB194_199.out _; (with_reducible repeat (first | refine blk_drewN ?_ _ | refine blk_drew ?_ | refine blk_alloc ?_ _)); refine blk_far ?_ NB194_199.out _; (with_reducible repeat (first | refine blk_drewN ?_ _ | refine blk_drew ?_ | refine blk_alloc ?_ _)); refine blk_far ?_ NB194_199.out _; (with_reducible repeat (first | refine blk_drewN ?_ _ | refine blk_drew ?_ | refine blk_alloc ?_ _)); refine blk_far ?_ NB194_199.out _; (with_reducible repeat (first | refine blk_drewN ?_ _ | refine blk_drew ?_ | refine blk_alloc ?_ _)); refine blk_far ?_ NB194_199.out _; (with_reducible repeat (first | refine blk_drewN ?_ _ | refine blk_drew ?_ | refine blk_alloc ?_ _)); exact BK194.out⟩
                have n1_ : Aside0 ((((((w13.setCell ⟨gb199, 0, none⟩ (.int .i64 (wrap64 (rd l0 0)))).setCell ⟨gb199, 1, none⟩ (.int .i64 (wrap64 (rd l0 1)))).setCell ⟨gb199, 2, none⟩ (.int .i64 (wrap64 (rd l0 2)))).setCell ⟨gb199, 3, none⟩ (.int .i64 (wrap64 (rd l0 3)))).setCell ⟨gb199, 4, none⟩ (.int .u64 0)).heap[gb199]? = some (.cells #[.int .i64 (wrap64 (rd l0 0)), .int .i64 (wrap64 (rd l0 1)), .int .i64 (wrap64 (rd l0 2)), .int .i64 (wrap64 (rd l0 3)), .int .u64 0] 30 (0, 0))) := ⟨by (with_reducible repeat (first | refine blk_drewN ?_ _ | refine blk_drew ?_ | refine blk_alloc ?_ _)); refine blk_put (cs := #[.int .i64 (wrap64 (rd l0 0)), .int .i64 (wrap64 (rd l0 1)), .int .i64 (wrap64 (rd l0 2)), .int .i64 (wrap64 (rd l0 3)), .int .u64 0]) ?_ 4 _ rfl; (with_reducible repeat (first | refine blk_drewN ?_ _ | refine blk_drew ?_ | refine blk_alloc ?_ _)); refine blk_put (cs := #[.int .i64 (wrap64 (rd l0 0)), .int .i64 (wrap64 (rd l0 1)), .int .i64 (wrap64 (rd l0 2)), .int .i64 0, .int .u64 0]) ?_ 3 _ rfl; (with_reducible repeat (first | refine blk_drewN ?_ _ | refine blk_drew ?_ | refine blk_alloc ?_ _)); refine blk_put (cs := #[.int .i64 (wrap64 (rd l0 0)), .int .i64 (wrap64 (rd l0 1)), .int .i64 0, .int .i64 0, .int .u64 0]) ?_ 2 _ rfl; (with_reducible repeat (first | refine blk_drewN ?_ _ | refine blk_drew ?_ | refine blk_alloc ?_ _)); refine blk_put (cs := #[.int .i64 (wrap64 (rd l0 0)), .int .i64 0, .int .i64 0, .int .i64 0, .int .u64 0]) ?_ 1 _ rfl; (with_reducible repeat (first | refine blk_drewN ?_ _ | refine blk_drew ?_ | refine blk_alloc ?_ _)); refine blk_put (cs := #[.int .i64 0, .int .i64 0, .int .i64 0, .int .i64 0, .int .u64 0]) ?_ 0 _ rfl; (with_reducible repeat (first | refine blk_drewN ?_ _ | refine blk_drew ?_ | refine blk_alloc ?_ _)); exact BK199.out⟩
                have n2_ : Aside0 (Below w.heap.size w (((((w13.setCell ⟨gb199, 0, none⟩ (.int .i64 (wrap64 (rd l0 0)))).setCell ⟨gb199, 1, none⟩ (.int .i64 (wrap64 (rd l0 1)))).setCell ⟨gb199, 2, none⟩ (.int .i64 (wrap64 (rd l0 2)))).setCell ⟨gb199, 3, none⟩ (.int .i64 (wrap64 (rd l0 3)))).setCell ⟨gb199, 4, none⟩ (.int .u64 0))) := ⟨by repeat (first | (with_reducible first | exact HB.out | apply below_alloc | apply pw_below_drewN | apply below_drew1 | refine below_set ?_ GE194.out | refine below_set ?_ GE199.out) | exact HB.out)⟩
                (try clear BK194)
                (try clear BK199)
                (try clear HB)
                generalize (((((w13.setCell ⟨gb199, 0, none⟩ (.int .i64 (wrap64 (rd l0 0)))).setCell ⟨gb199, 1, none⟩ (.int .i64 (wrap64 (rd l0 1)))).setCell ⟨gb199, 2, none⟩ (.int .i64 (wrap64 (rd l0 2)))).setCell ⟨gb199, 3, none⟩ (.int .i64 (wrap64 (rd l0 3)))).setCell ⟨gb199, 4, none⟩ (.int .u64 0)) = w19 at n0_ n1_ n2_ ⊢
                have BK194 := n0_
                have BK199 := n1_
                have HB := n2_
                clear n0_ n1_ n2_
                have q20 : (12 : Int) ≤ ((l0.length : Int) : Int) := of_decide_eq_true (by first | (with_reducible assumption) | assumption)
                obtain ⟨i020, hi020, _, hsz20, _⟩ := info_parts info5
                have hroom20 : l0.length ≤ c0 := HC0.out
                have hC20 : Kd.C (Kd.int .u8) _ (some ad195) l0.length l0 := HR0.out
                have ql20 : (4 : Int) ≤ (12 : Int) := (by omega)
                have hcut20 := cut_mid (P := Try.prog) 31 5 .i64 .i64 Try.underlying31 hi020 1 hsz20 (some ad195) l0.length c0 4 12 (by omega) ql20 q20 hroom20
                have hr20 := Kd.C_mid (lo := (4 : Int).toNat) (hi := (12 : Int).toNat) (c := c0) hC20 (by omega) (by omega) hroom20
                obtain ⟨A20, hA20⟩ : ∃ A1, A1 = (if c0 = (4 : Int).toNat then (some ad195) else ((some ad195) : Option Addr).map (·.add ((4 : Int).toNat * 1))) := ⟨_, rfl⟩
                obtain ⟨c20, hc20⟩ : ∃ c1, c1 = c0 - (4 : Int).toNat := ⟨_, rfl⟩
                have hy20 : y200.length = (12 : Int).toNat - (4 : Int).toNat := (by rw [Ny200.out, List.length_drop, List.length_take] <;> omega)
                rw [show ((l0).take (12 : Int).toNat).drop (4 : Int).toNat = y200 from Ny200.out.symm] at hr20
                replace hr20 : Kd.C (Kd.int .u8) _ A20 y200.length y200 := (by rw [hA20]; exact hr20)
                rw [← hy20, ← hA20, ← hc20] at hcut20
                have HR203 := Aside0.mk hr20
                have HC203 := Aside0.mk (show y200.length ≤ c20 from by rw [hy20, hc20]; exact Nat.sub_le_sub_right (Nat.le_trans (by omega) hroom20) _)
                clear hr20 hC20 hroom20 hi020 hsz20 hc20
                have KY20 := Aside0.mk hy20
                have KA20 := Aside0.mk hA20
                clear hy20 hA20
                replace q20 := eq_true q20
                try go_wp2
                go_loopg [35] k (fun kq v35 w' => ∃ (x35_1 : Int) (x200004_1 : Int), v35 = .int .i64 x35_1 ∧ Aside0 (code_Get.l0 kq y200 (y200.length : Int) x35_1 (wrap64 (rd l0 0)) (wrap64 (rd l0 1)) (wrap64 (rd l0 2)) (wrap64 (rd l0 3)) x200004_1 = some (r1, r2, r3, r4, r5, r6, r7)) ∧ Aside0 (kq ≤ k) ∧ Aside0 (w'.heap[gb194]? = some (.cells #[.int .i64 0, .int .i64 0, .int .i64 0, .int .i64 0, .int .u64 0] 30 (0, 0))) ∧ Aside0 (w'.heap[gb199]? = some (.cells #[.int .i64 (wrap64 (rd l0 0)), .int .i64 (wrap64 (rd l0 1)), .int .i64 (wrap64 (rd l0 2)), .int .i64 (wrap64 (rd l0 3)), .int .u64 x200004_1] 30 (0, 0))) ∧ Aside0 (Below w.heap.size w w'))
                case atStart => exact ⟨(0), (0), (by first | rfl | (simp; done) | (simp [*]; done)), H', ⟨Nat.le_refl _⟩, ⟨by (with_reducible repeat (first | refine blk_drewN ?_ _ | refine blk_drew ?_ | refine blk_alloc ?_ _)); exact BK194.out⟩, ⟨by (with_reducible repeat (first | refine blk_drewN ?_ _ | refine blk_drew ?_ | refine blk_alloc ?_ _)); exact BK199.out⟩, ⟨by repeat (first | (with_reducible first | exact HB.out | apply below_alloc | apply pw_below_drewN | apply below_drew1 | refine below_set ?_ GE194.out | refine below_set ?_ GE199.out) | exact HB.out)⟩⟩
                case round =>
                  clear H'
                  try clear c1
                  try clear p1
                  try clear q1
                  try clear hx1
                  try clear qi1
                  try clear c2
                  try clear c2b0
                  try clear c2b1
                  try clear p2
                  try clear q2
                  try clear c5
                  try clear c5b0
                  try clear c5b1
                  try clear c6
                  try clear c6b0
                  try clear c6b1
                  try clear p6
                  try clear c7
                  try clear c7b0
                  try clear c7b1
                  try clear c8
                  try clear c8b0
                  try clear c8b1
                  try clear c9
                  try clear c9b0
                  try clear c9b1
                  try clear c10
                  try clear c10b0
                  try clear c10b1
                  try clear c16
                  try clear p19
                  try clear q19
                  try clear hx19
                  try clear qi19
                  try clear c20
                  try clear q20
                  try clear hcz4_0
                  try clear hcz4_1
                  try clear hcz4_2
                  try clear hcz4_3
                  try clear hcz4_4
                  try clear hfz4_0
                  try clear hfz4_1
                  try clear hfz4_2
                  try clear hfz4_3
                  try clear hfz4_4
                  try clear hx195_0
                  try clear hx196_0
                  try clear hx197_0
                  try clear hx198_0
                  try clear p195
                  try clear p196
                  try clear p197
                  try clear p198
                  try clear q195
                  try clear q196
                  try clear q197
                  try clear q198
                  try clear q20
                  obtain ⟨x35_1, x200004_1, rfl, HA, HK1, BK194, BK199, HB⟩ := hrel
                  cases gk with
                  | zero => exact absurd HA.out (by simp [code_Get.l0])
                  | succ k1 =>
                    have H := HA.out
                    clear HA
                    simp only [code_Get.l0] at H
                    by_cases c21 : x35_1 < (y200.length : Int)
                    · rw [if_pos c21] at H
                      have c21b0 : decide (x35_1 < (y200.length : Int)) = true := decide_eq_true c21
                      clear c21
                      by_cases c22 : 0 ≤ x35_1
                      · rw [if_pos c22] at H
                        have c22b0 : decide (0 ≤ x35_1) = true := decide_eq_true c22
                        clear c22
                        by_cases c23 : x35_1 < (y200.length : Int)
                        · rw [if_pos c23] at H
                          have c23b0 : decide (x35_1 < (y200.length : Int)) = true := decide_eq_true c23
                          clear c23
                          have H' := Aside0.mk H
                          clear H
                          have p204 : 0 ≤ (x35_1 : Int) := of_decide_eq_true (by first | (with_reducible assumption) | assumption)
                          have q204 : x35_1 < (y200.length : Int) := of_decide_eq_true (by first | (with_reducible assumption) | assumption)
                          obtain ⟨ad204, e204, hx204_0⟩ := Kd.at_int HR203.out x35_1 p204 q204
                          cases e204
                          replace hx204_0 := (HB.out.cell (World.block_lt_of_cell? w _ hx204_0)).trans hx204_0
                          replace p204 := eq_true p204
                          replace q204 := eq_true q204
                          have hnb24 := NB199_194.out
                          have hnc24 := NB194_199.out
                          have hcz25_0 : wr.cell? ⟨gb199, 0, none⟩ = some (.int .i64 (wrap64 (rd l0 0))) := (blk_cell BK199.out 0).trans rfl
                          have hcz25_1 : wr.cell? ⟨gb199, 1, none⟩ = some (.int .i64 (wrap64 (rd l0 1))) := (blk_cell BK199.out 1).trans rfl
                          have hcz25_2 : wr.cell? ⟨gb199, 2, none⟩ = some (.int .i64 (wrap64 (rd l0 2))) := (blk_cell BK199.out 2).trans rfl
                          have hcz25_3 : wr.cell? ⟨gb199, 3, none⟩ = some (.int .i64 (wrap64 (rd l0 3))) := (blk_cell BK199.out 3).trans rfl
                          have hcz25_4 : wr.cell? ⟨gb199, 4, none⟩ = some (.int .u64 x200004_1) := (blk_cell BK199.out 4).trans rfl
                          have hfz25_0 := blk_frozen BK199.out 0
                          have hfz25_1 := blk_frozen BK199.out 1
                          have hfz25_2 := blk_frozen BK199.out 2
                          have hfz25_3 := blk_frozen BK199.out 3
                          have hfz25_4 := blk_frozen BK199.out 4
                          go_wp2
                          go_roundg k1
                          case measure => have := HK1.out; omega
                          case rel => exact ⟨(wrap64 (x35_1 + 1)), (Go.bits .or .u64 (IntKind.u64.wrap (x200004_1 * 256)) (IntKind.u64.wrap (rd y200 x35_1))), (by first | rfl | (simp; done) | (simp [*]; done)), H', ⟨by have := HK1.out; omega⟩, ⟨by (with_reducible repeat (first | refine blk_drewN ?_ _ | refine blk_drew ?_ | refine blk_alloc ?_ _)); refine blk_far ?_ NB194_199.out _; (with_reducible repeat (first | refine blk_drewN ?_ _ | refine blk_drew ?_ | refine blk_alloc ?_ _)); exact BK194.out⟩, ⟨by (with_reducible repeat (first | refine blk_drewN ?_ _ | refine blk_drew ?_ | refine blk_alloc ?_ _)); refine blk_put (cs := #[.int .i64 (wrap64 (rd l0 0)), .int .i64 (wrap64 (rd l0 1)), .int .i64 (wrap64 (rd l0 2)), .int .i64 (wrap64 (rd l0 3)), .int .u64 x200004_1]) ?_ 4 _ rfl; (with_reducible repeat (first | refine blk_drewN ?_ _ | refine blk_drew ?_ | refine blk_alloc ?_ _)); exact BK199.out⟩, ⟨by repeat (first | (with_reducible first | exact HB.out | apply below_alloc | apply pw_below_drewN | apply below_drew1 | refine below_set ?_ GE194.out | refine below_set ?_ GE199.out) | exact HB.out)⟩⟩
                        · rw [if_neg c23] at H
                          exact absurd H (by simp)
                      · rw [if_neg c22] at H
                        exact absurd H (by simp)
                    · rw [if_neg c21] at H
                      have c21b0 : decide (x35_1 < (y200.length : Int)) = false := decide_eq_false c21
                      clear c21
                      replace H := Option.bind_eq_some_iff.mp H
                      obtain ⟨t205, A260, H⟩ := H
                      replace H : (if t205 = true then ((code_wrong.f k1 (wrap64 (rd l0 0)) (wrap64 (rd l0 1)) (wrap64 (rd l0 2)) (wrap64 (rd l0 3)) x200004_1).bind fun t206 => (if t206 = 0 then (some ((wrap64 (rd l0 0)), (wrap64 (rd l0 1)), (wrap64 (rd l0 2)), (wrap64 (rd l0 3)), x200004_1, 0, 0)) else (some (0, 0, 0, 0, 0, 5, t206)))) else (some (0, 0, 0, 0, 0, 4, 0))) = some (r1, r2, r3, r4, r5, r6, r7) := H
                      have A26 := Aside0.mk A260
                      clear A260
                      by_cases c27 : t205 = true
                      · subst c27
                        have H1 : ((code_wrong.f k1 (wrap64 (rd l0 0)) (wrap64 (rd l0 1)) (wrap64 (rd l0 2)) (wrap64 (rd l0 3)) x200004_1).bind fun t206 => (if t206 = 0 then (some ((wrap64 (rd l0 0)), (wrap64 (rd l0 1)), (wrap64 (rd l0 2)), (wrap64 (rd l0 3)), x200004_1, 0, 0)) else (some (0, 0, 0, 0, 0, 5, t206)))) = some (r1, r2, r3, r4, r5, r6, r7) := by rw [if_pos rfl] at H; exact H
                        clear H
                        have H := H1
                        clear H1
                        replace H := Option.bind_eq_some_iff.mp H
                        obtain ⟨t206, A280, H⟩ := H
                        replace H : (if t206 = 0 then (some ((wrap64 (rd l0 0)), (wrap64 (rd l0 1)), (wrap64 (rd l0 2)), (wrap64 (rd l0 3)), x200004_1, 0, 0)) else (some (0, 0, 0, 0, 0, 5, t206))) = some (r1, r2, r3, r4, r5, r6, r7) := H
                        have A28 := Aside0.mk A280
                        clear A280
                        by_cases c29 : t206 = 0
                        · rw [if_pos c29] at H
                          have c29b0 : (t206 == 0) = true := beq_iff_eq.mpr c29
                          have c29b1 : (t206 != 0) = false := bne_eq_false_iff_eq.mpr c29
                          clear c29
                          simp only [Option.some.injEq, Prod.mk.injEq] at H
                          obtain ⟨rfl, rfl, rfl, rfl, rfl, rfl, rfl⟩ := H
                          have hnb30 := NB199_194.out
                          have hnc30 := NB194_199.out
                          have hcz31_0 : wr.cell? ⟨gb199, 0, none⟩ = some (.int .i64 (wrap64 (rd l0 0))) := (blk_cell BK199.out 0).trans rfl
                          have hcz31_1 : wr.cell? ⟨gb199, 1, none⟩ = some (.int .i64 (wrap64 (rd l0 1))) := (blk_cell BK199.out 1).trans rfl
                          have hcz31_2 : wr.cell? ⟨gb199, 2, none⟩ = some (.int .i64 (wrap64 (rd l0 2))) := (blk_cell BK199.out 2).trans rfl
                          have hcz31_3 : wr.cell? ⟨gb199, 3, none⟩ = some (.int .i64 (wrap64 (rd l0 3))) := (blk_cell BK199.out 3).trans rfl
                          have hcz31_4 : wr.cell? ⟨gb199, 4, none⟩ = some (.int .u64 x200004_1) := (blk_cell BK199.out 4).trans rfl
                          have hfz31_0 := blk_frozen BK199.out 0
                          have hfz31_1 := blk_frozen BK199.out 1
                          have hfz31_2 := blk_frozen BK199.out 2
                          have hfz31_3 := blk_frozen BK199.out 3
                          have hfz31_4 := blk_frozen BK199.out 4
                          go_wp2_with (first | ((with_reducible refine gate_callee (f := 20) rfl ?_); refine goesL_ (some 49) rfl rfl Try.func20 (by kernel_rfl) rfl #[.int .i64 (wrap64 (rd l0 0))] rfl (by (try simp only [List.map_toArray, List.map_cons, List.map_nil]); first | done | rfl | (simp only [List.length_drop, List.length_take]; rfl)) ?_; (with_reducible refine (code_known.calls (wrap64 (rd l0 0)) true _ A26.out).mono ?_); rintro e w' ⟨rfl, ⟨nd, rfl⟩⟩; refine ⟨_, rfl, ?_⟩; (try (rw [drewN_self wr]; generalize hq_ : World.drewN wr _ = wr; have n0_ : Aside0 (wr.heap[gb194]? = some (.cells #[.int .i64 0, .int .i64 0, .int .i64 0, .int .i64 0, .int .u64 0] 30 (0, 0))) := ⟨by rw [← hq_]; exact (by (with_reducible repeat (first | refine blk_drewN ?_ _ | refine blk_drew ?_ | refine blk_alloc ?_ _)); exact BK194.out)⟩; have n1_ : Aside0 (wr.heap[gb199]? = some (.cells #[.int .i64 (wrap64 (rd l0 0)), .int .i64 (wrap64 (rd l0 1)), .int .i64 (wrap64 (rd l0 2)), .int .i64 (wrap64 (rd l0 3)), .int .u64 x200004_1] 30 (0, 0))) := ⟨by rw [← hq_]; exact (by (with_reducible repeat (first | refine blk_drewN ?_ _ | refine blk_drew ?_ | refine blk_alloc ?_ _)); exact BK199.out)⟩; have n2_ : Aside0 (Below w.heap.size w wr) := ⟨by rw [← hq_]; exact (by repeat (first | (with_reducible first | exact HB.out | apply below_alloc | apply pw_below_drewN | apply below_drew1 | refine below_set ?_ GE194.out | refine below_set ?_ GE199.out) | exact HB.out))⟩; clear BK194 BK199 HB hq_; have BK194 := n0_; have BK199 := n1_; have HB := n2_; clear n0_ n1_ n2_)); have hcz32_0 : wr.cell? ⟨gb199, 0, none⟩ = some (.int .i64 (wrap64 (rd l0 0))) := (blk_cell BK199.out 0).trans rfl; have hcz32_1 : wr.cell? ⟨gb199, 1, none⟩ = some (.int .i64 (wrap64 (rd l0 1))) := (blk_cell BK199.out 1).trans rfl; have hcz32_2 : wr.cell? ⟨gb199, 2, none⟩ = some (.int .i64 (wrap64 (rd l0 2))) := (blk_cell BK199.out 2).trans rfl; have hcz32_3 : wr.cell? ⟨gb199, 3, none⟩ = some (.int .i64 (wrap64 (rd l0 3))) := (blk_cell BK199.out 3).trans rfl; have hcz32_4 : wr.cell? ⟨gb199, 4, none⟩ = some (.int .u64 x200004_1) := (blk_cell BK199.out 4).trans rfl; have hfz32_0 := blk_frozen BK199.out 0; have hfz32_1 := blk_frozen BK199.out 1; have hfz32_2 := blk_frozen BK199.out 2; have hfz32_3 := blk_frozen BK199.out 3; have hfz32_4 := blk_frozen BK199.out 4) | ((with_reducible refine gate_callee (f := 21) rfl ?_); refine goesL_ (some 53) rfl rfl Try.func21 (by kernel_rfl) rfl #[.agg #[.int .i64 (wrap64 (rd l0 0)), .int .i64 (wrap64 (rd l0 1)), .int .i64 (wrap64 (rd l0 2)), .int .i64 (wrap64 (rd l0 3)), .int .u64 x200004_1]] rfl (by (try simp only [List.map_toArray, List.map_cons, List.map_nil]); first | done | rfl | (simp only [List.length_drop, List.length_take]; rfl)) ?_; (with_reducible refine (code_wrong.calls k1 (wrap64 (rd l0 0)) (wrap64 (rd l0 1)) (wrap64 (rd l0 2)) (wrap64 (rd l0 3)) x200004_1 t206 _ A28.out).mono ?_); rintro e w33 ⟨rfl, hb⟩; refine ⟨_, rfl, ?_⟩; have n0_ := Aside0.mk (blk_below (g := gb194) (o := .cells #[.int .i64 0, .int .i64 0, .int .i64 0, .int .i64 0, .int .u64 0] 30 (0, 0)) (by (with_reducible repeat (first | refine blk_drewN ?_ _ | refine blk_drew ?_ | refine blk_alloc ?_ _)); exact BK194.out) hb); have n1_ := Aside0.mk (blk_below (g := gb199) (o := .cells #[.int .i64 (wrap64 (rd l0 0)), .int .i64 (wrap64 (rd l0 1)), .int .i64 (wrap64 (rd l0 2)), .int .i64 (wrap64 (rd l0 3)), .int .u64 x200004_1] 30 (0, 0)) (by (with_reducible repeat (first | refine blk_drewN ?_ _ | refine blk_drew ?_ | refine blk_alloc ?_ _)); exact BK199.out) hb); have n2_ := Aside0.mk (below_step (by repeat (first | (with_reducible first | exact HB.out | apply below_alloc | apply pw_below_drewN | apply below_drew1 | refine below_set ?_ GE194.out | refine below_set ?_ GE199.out) | exact HB.out)) hb); clear BK194; clear BK199; clear HB; have BK194 := n0_; have BK199 := n1_; have HB := n2_; clear n0_ n1_ n2_; (try clear hb); (try clear hb2); (try clear hk); (try clear hi); have hcz34_0 : w33.cell? ⟨gb199, 0, none⟩ = some (.int .i64 (wrap64 (rd l0 0))) := (blk_cell BK199.out 0).trans rfl; have hcz34_1 : w33.cell? ⟨gb199, 1, none⟩ = some (.int .i64 (wrap64 (rd l0 1))) := (blk_cell BK199.out 1).trans rfl; have hcz34_2 : w33.cell? ⟨gb199, 2, none⟩ = some (.int .i64 (wrap64 (rd l0 2))) := (blk_cell BK199.out 2).trans rfl; have hcz34_3 : w33.cell? ⟨gb199, 3, none⟩ = some (.int .i64 (wrap64 (rd l0 3))) := (blk_cell BK199.out 3).trans rfl; have hcz34_4 : w33.cell? ⟨gb199, 4, none⟩ = some (.int .u64 x200004_1) := (blk_cell BK199.out 4).trans rfl; have hfz34_0 := blk_frozen BK199.out 0; have hfz34_1 := blk_frozen BK199.out 1; have hfz34_2 := blk_frozen BK199.out 2; have hfz34_3 := blk_frozen BK199.out 3; have hfz34_4 := blk_frozen BK199.out 4; have hcz35_0 : w33.cell? ⟨gb194, 0, none⟩ = some (.int .i64 0) := (blk_cell BK194.out 0).trans rfl; have hcz35_1 : w33.cell? ⟨gb194, 1, none⟩ = some (.int .i64 0) := (blk_cell BK194.out 1).trans rfl; have hcz35_2 : w33.cell? ⟨gb194, 2, none⟩ = some (.int .i64 0) := (blk_cell BK194.out 2).trans rfl; have hcz35_3 : w33.cell? ⟨gb194, 3, none⟩ = some (.int .i64 0) := (blk_cell BK194.out 3).trans rfl; have hcz35_4 : w33.cell? ⟨gb194, 4, none⟩ = some (.int .u64 0) := (blk_cell BK194.out 4).trans rfl; have hfz35_0 := blk_frozen BK194.out 0; have hfz35_1 := blk_frozen BK194.out 1; have hfz35_2 := blk_frozen BK194.out 2; have hfz35_3 := blk_frozen BK194.out 3; have hfz35_4 := blk_frozen BK194.out 4))
                          refine bodyPost_ret (results_ctt rfl _ _ gb194 30 #[.int .i64 (wrap64 (rd l0 0)), .int .i64 (wrap64 (rd l0 1)), .int .i64 (wrap64 (rd l0 2)), .int .i64 (wrap64 (rd l0 3)), .int .u64 x200004_1] (0, 0) _ rfl (by (with_reducible repeat (first | refine blk_drewN ?_ _ | refine blk_drew ?_ | refine blk_alloc ?_ _)); refine blk_put (cs := #[.int .i64 (wrap64 (rd l0 0)), .int .i64 (wrap64 (rd l0 1)), .int .i64 (wrap64 (rd l0 2)), .int .i64 (wrap64 (rd l0 3)), .int .u64 0]) ?_ 4 _ rfl; (with_reducible repeat (first | refine blk_drewN ?_ _ | refine blk_drew ?_ | refine blk_alloc ?_ _)); refine blk_put (cs := #[.int .i64 (wrap64 (rd l0 0)), .int .i64 (wrap64 (rd l0 1)), .int .i64 (wrap64 (rd l0 2)), .int .i64 0, .int .u64 0]) ?_ 3 _ rfl; (with_reducible repeat (first | refine blk_drewN ?_ _ | refine blk_drew ?_ | refine blk_alloc ?_ _)); refine blk_put (cs := #[.int .i64 (wrap64 (rd l0 0)), .int .i64 (wrap64 (rd l0 1)), .int .i64 0, .int .i64 0, .int .u64 0]) ?_ 2 _ rfl; (with_reducible repeat (first | refine blk_drewN ?_ _ | refine blk_drew ?_ | refine blk_alloc ?_ _)); refine blk_put (cs := #[.int .i64 (wrap64 (rd l0 0)), .int .i64 0, .int .i64 0, .int .i64 0, .int .u64 0]) ?_ 1 _ rfl; (with_reducible repeat (first | refine blk_drewN ?_ _ | refine blk_drew ?_ | refine blk_alloc ?_ _)); refine blk_put (cs := #[.int .i64 0, .int .i64 0, .int .i64 0, .int .i64 0, .int .u64 0]) ?_ 0 _ rfl; (with_reducible repeat (first | refine blk_drewN ?_ _ | refine blk_drew ?_ | refine blk_alloc ?_ _)); exact BK194.out) Try.underlying30 rfl (by kernel_rfl)) rfl ?_
                          exact ⟨by first | rfl | (simp [errW_none, errW_some] <;> rfl) | (simp [*, errW_none, errW_some] <;> rfl), by repeat (first | (with_reducible first | exact HB.out | apply below_alloc | apply pw_below_drewN | apply below_drew1 | refine below_set ?_ GE194.out | refine below_set ?_ GE199.out) | exact HB.out)⟩
                        · rw [if_neg c29] at H
                          have c29b0 : (t206 == 0) = false := beq_eq_false_iff_ne.mpr c29
                          have c29b1 : (t206 != 0) = true := bne_iff_ne.mpr c29
                          simp only [Option.some.injEq, Prod.mk.injEq] at H
                          obtain ⟨rfl, rfl, rfl, rfl, rfl, rfl, rfl⟩ := H
                          have hnb36 := NB199_194.out
                          have hnc36 := NB194_199.out
                          have hcz37_0 : wr.cell? ⟨gb199, 0, none⟩ = some (.int .i64 (wrap64 (rd l0 0))) := (blk_cell BK199.out 0).trans rfl
                          have hcz37_1 : wr.cell? ⟨gb199, 1, none⟩ = some (.int .i64 (wrap64 (rd l0 1))) := (blk_cell BK199.out 1).trans rfl
                          have hcz37_2 : wr.cell? ⟨gb199, 2, none⟩ = some (.int .i64 (wrap64 (rd l0 2))) := (blk_cell BK199.out 2).trans rfl
                          have hcz37_3 : wr.cell? ⟨gb199, 3, none⟩ = some (.int .i64 (wrap64 (rd l0 3))) := (blk_cell BK199.out 3).trans rfl
                          have hcz37_4 : wr.cell? ⟨gb199, 4, none⟩ = some (.int .u64 x200004_1) := (blk_cell BK199.out 4).trans rfl
                          have hfz37_0 := blk_frozen BK199.out 0
                          have hfz37_1 := blk_frozen BK199.out 1
                          have hfz37_2 := blk_frozen BK199.out 2
                          have hfz37_3 := blk_frozen BK199.out 3
                          have hfz37_4 := blk_frozen BK199.out 4
                          go_wp2_with (first | ((with_reducible refine gate_callee (f := 20) rfl ?_); refine goesL_ (some 49) rfl rfl Try.func20 (by kernel_rfl) rfl #[.int .i64 (wrap64 (rd l0 0))] rfl (by (try simp only [List.map_toArray, List.map_cons, List.map_nil]); first | done | rfl | (simp only [List.length_drop, List.length_take]; rfl)) ?_; (with_reducible refine (code_known.calls (wrap64 (rd l0 0)) true _ A26.out).mono ?_); rintro e w' ⟨rfl, ⟨nd, rfl⟩⟩; refine ⟨_, rfl, ?_⟩; (try (rw [drewN_self wr]; generalize hq_ : World.drewN wr _ = wr; have n0_ : Aside0 (wr.heap[gb194]? = some (.cells #[.int .i64 0, .int .i64 0, .int .i64 0, .int .i64 0, .int .u64 0] 30 (0, 0))) := ⟨by rw [← hq_]; exact (by (with_reducible repeat (first | refine blk_drewN ?_ _ | refine blk_drew ?_ | refine blk_alloc ?_ _)); exact BK194.out)⟩; have n1_ : Aside0 (wr.heap[gb199]? = some (.cells #[.int .i64 (wrap64 (rd l0 0)), .int .i64 (wrap64 (rd l0 1)), .int .i64 (wrap64 (rd l0 2)), .int .i64 (wrap64 (rd l0 3)), .int .u64 x200004_1] 30 (0, 0))) := ⟨by rw [← hq_]; exact (by (with_reducible repeat (first | refine blk_drewN ?_ _ | refine blk_drew ?_ | refine blk_alloc ?_ _)); exact BK199.out)⟩; have n2_ : Aside0 (Below w.heap.size w wr) := ⟨by rw [← hq_]; exact (by repeat (first | (with_reducible first | exact HB.out | apply below_alloc | apply pw_below_drewN | apply below_drew1 | refine below_set ?_ GE194.out | refine below_set ?_ GE199.out) | exact HB.out))⟩; clear BK194 BK199 HB hq_; have BK194 := n0_; have BK199 := n1_; have HB := n2_; clear n0_ n1_ n2_)); have hcz38_0 : wr.cell? ⟨gb199, 0, none⟩ = some (.int .i64 (wrap64 (rd l0 0))) := (blk_cell BK199.out 0).trans rfl; have hcz38_1 : wr.cell? ⟨gb199, 1, none⟩ = some (.int .i64 (wrap64 (rd l0 1))) := (blk_cell BK199.out 1).trans rfl; have hcz38_2 : wr.cell? ⟨gb199, 2, none⟩ = some (.int .i64 (wrap64 (rd l0 2))) := (blk_cell BK199.out 2).trans rfl; have hcz38_3 : wr.cell? ⟨gb199, 3, none⟩ = some (.int .i64 (wrap64 (rd l0 3))) := (blk_cell BK199.out 3).trans rfl; have hcz38_4 : wr.cell? ⟨gb199, 4, none⟩ = some (.int .u64 x200004_1) := (blk_cell BK199.out 4).trans rfl; have hfz38_0 := blk_frozen BK199.out 0; have hfz38_1 := blk_frozen BK199.out 1; have hfz38_2 := blk_frozen BK199.out 2; have hfz38_3 := blk_frozen BK199.out 3; have hfz38_4 := blk_frozen BK199.out 4) | ((with_reducible refine gate_callee (f := 21) rfl ?_); refine goesL_ (some 53) rfl rfl Try.func21 (by kernel_rfl) rfl #[.agg #[.int .i64 (wrap64 (rd l0 0)), .int .i64 (wrap64 (rd l0 1)), .int .i64 (wrap64 (rd l0 2)), .int .i64 (wrap64 (rd l0 3)), .int .u64 x200004_1]] rfl (by (try simp only [List.map_toArray, List.map_cons, List.map_nil]); first | done | rfl | (simp only [List.length_drop, List.length_take]; rfl)) ?_; (with_reducible refine (code_wrong.calls k1 (wrap64 (rd l0 0)) (wrap64 (rd l0 1)) (wrap64 (rd l0 2)) (wrap64 (rd l0 3)) x200004_1 t206 _ A28.out).mono ?_); rintro e w39 ⟨rfl, hb⟩; refine ⟨_, rfl, ?_⟩; have n0_ := Aside0.mk (blk_below (g := gb194) (o := .cells #[.int .i64 0, .int .i64 0, .int .i64 0, .int .i64 0, .int .u64 0] 30 (0, 0)) (by (with_reducible repeat (first | refine blk_drewN ?_ _ | refine blk_drew ?_ | refine blk_alloc ?_ _)); exact BK194.out) hb); have n1_ := Aside0.mk (blk_below (g := gb199) (o := .cells #[.int .i64 (wrap64 (rd l0 0)), .int .i64 (wrap64 (rd l0 1)), .int .i64 (wrap64 (rd l0 2)), .int .i64 (wrap64 (rd l0 3)), .int .u64 x200004_1] 30 (0, 0)) (by (with_reducible repeat (first | refine blk_drewN ?_ _ | refine blk_drew ?_ | refine blk_alloc ?_ _)); exact BK199.out) hb); have n2_ := Aside0.mk (below_step (by repeat (first | (with_reducible first | exact HB.out | apply below_alloc | apply pw_below_drewN | apply below_drew1 | refine below_set ?_ GE194.out | refine below_set ?_ GE199.out) | exact HB.out)) hb); clear BK194; clear BK199; clear HB; have BK194 := n0_; have BK199 := n1_; have HB := n2_; clear n0_ n1_ n2_; (try clear hb); (try clear hb2); (try clear hk); (try clear hi); have hcz40_0 : w39.cell? ⟨gb194, 0, none⟩ = some (.int .i64 0) := (blk_cell BK194.out 0).trans rfl; have hcz40_1 : w39.cell? ⟨gb194, 1, none⟩ = some (.int .i64 0) := (blk_cell BK194.out 1).trans rfl; have hcz40_2 : w39.cell? ⟨gb194, 2, none⟩ = some (.int .i64 0) := (blk_cell BK194.out 2).trans rfl; have hcz40_3 : w39.cell? ⟨gb194, 3, none⟩ = some (.int .i64 0) := (blk_cell BK194.out 3).trans rfl; have hcz40_4 : w39.cell? ⟨gb194, 4, none⟩ = some (.int .u64 0) := (blk_cell BK194.out 4).trans rfl; have hfz40_0 := blk_frozen BK194.out 0; have hfz40_1 := blk_frozen BK194.out 1; have hfz40_2 := blk_frozen BK194.out 2; have hfz40_3 := blk_frozen BK194.out 3; have hfz40_4 := blk_frozen BK194.out 4))
                          refine bodyPost_ret (results_ctt rfl _ _ gb194 30 #[.int .i64 0, .int .i64 0, .int .i64 0, .int .i64 0, .int .u64 0] (0, 0) _ rfl (by (with_reducible repeat (first | refine blk_drewN ?_ _ | refine blk_drew ?_ | refine blk_alloc ?_ _)); refine blk_put (cs := #[.int .i64 0, .int .i64 0, .int .i64 0, .int .i64 0, .int .u64 0]) ?_ 4 _ rfl; (with_reducible repeat (first | refine blk_drewN ?_ _ | refine blk_drew ?_ | refine blk_alloc ?_ _)); refine blk_put (cs := #[.int .i64 0, .int .i64 0, .int .i64 0, .int .i64 0, .int .u64 0]) ?_ 3 _ rfl; (with_reducible repeat (first | refine blk_drewN ?_ _ | refine blk_drew ?_ | refine blk_alloc ?_ _)); refine blk_put (cs := #[.int .i64 0, .int .i64 0, .int .i64 0, .int .i64 0, .int .u64 0]) ?_ 2 _ rfl; (with_reducible repeat (first | refine blk_drewN ?_ _ | refine blk_drew ?_ | refine blk_alloc ?_ _)); refine blk_put (cs := #[.int .i64 0, .int .i64 0, .int .i64 0, .int .i64 0, .int .u64 0]) ?_ 1 _ rfl; (with_reducible repeat (first | refine blk_drewN ?_ _ | refine blk_drew ?_ | refine blk_alloc ?_ _)); refine blk_put (cs := #[.int .i64 0, .int .i64 0, .int .i64 0, .int .i64 0, .int .u64 0]) ?_ 0 _ rfl; (with_reducible repeat (first | refine blk_drewN ?_ _ | refine blk_drew ?_ | refine blk_alloc ?_ _)); exact BK194.out) Try.underlying30 rfl (by kernel_rfl)) rfl ?_
                          exact ⟨by first | rfl | (simp [errW_none, errW_some] <;> rfl) | (simp [*, errW_none, errW_some] <;> rfl), by repeat (first | (with_reducible first | exact HB.out | apply below_alloc | apply pw_below_drewN | apply below_drew1 | refine below_set ?_ GE194.out | refine below_set ?_ GE199.out) | exact HB.out)⟩
                      · replace c27 := Bool.eq_false_iff.mpr c27
                        subst c27
                        have H1 : (some (0, 0, 0, 0, 0, 4, 0)) = some (r1, r2, r3, r4, r5, r6, r7) := by rw [if_neg (show ¬ (false = true) by decide)] at H; exact H
                        clear H
                        have H := H1
                        clear H1
                        simp only [Option.some.injEq, Prod.mk.injEq] at H
                        obtain ⟨rfl, rfl, rfl, rfl, rfl, rfl, rfl⟩ := H
                        have hnb41 := NB199_194.out
                        have hnc41 := NB194_199.out
                        have hcz42_0 : wr.cell? ⟨gb199, 0, none⟩ = some (.int .i64 (wrap64 (rd l0 0))) := (blk_cell BK199.out 0).trans rfl
                        have hcz42_1 : wr.cell? ⟨gb199, 1, none⟩ = some (.int .i64 (wrap64 (rd l0 1))) := (blk_cell BK199.out 1).trans rfl
                        have hcz42_2 : wr.cell? ⟨gb199, 2, none⟩ = some (.int .i64 (wrap64 (rd l0 2))) := (blk_cell BK199.out 2).trans rfl
                        have hcz42_3 : wr.cell? ⟨gb199, 3, none⟩ = some (.int .i64 (wrap64 (rd l0 3))) := (blk_cell BK199.out 3).trans rfl
                        have hcz42_4 : wr.cell? ⟨gb199, 4, none⟩ = some (.int .u64 x200004_1) := (blk_cell BK199.out 4).trans rfl
                        have hfz42_0 := blk_frozen BK199.out 0
                        have hfz42_1 := blk_frozen BK199.out 1
                        have hfz42_2 := blk_frozen BK199.out 2
                        have hfz42_3 := blk_frozen BK199.out 3
                        have hfz42_4 := blk_frozen BK199.out 4
                        go_wp2_with (first | ((with_reducible refine gate_callee (f := 20) rfl ?_); refine goesL_ (some 49) rfl rfl Try.func20 (by kernel_rfl) rfl #[.int .i64 (wrap64 (rd l0 0))] rfl (by (try simp only [List.map_toArray, List.map_cons, List.map_nil]); first | done | rfl | (simp only [List.length_drop, List.length_take]; rfl)) ?_; (with_reducible refine (code_known.calls (wrap64 (rd l0 0)) false _ A26.out).mono ?_); rintro e w' ⟨rfl, ⟨nd, rfl⟩⟩; refine ⟨_, rfl, ?_⟩; (try (rw [drewN_self wr]; generalize hq_ : World.drewN wr _ = wr; have n0_ : Aside0 (wr.heap[gb194]? = some (.cells #[.int .i64 0, .int .i64 0, .int .i64 0, .int .i64 0, .int .u64 0] 30 (0, 0))) := ⟨by rw [← hq_]; exact (by (with_reducible repeat (first | refine blk_drewN ?_ _ | refine blk_drew ?_ | refine blk_alloc ?_ _)); exact BK194.out)⟩; have n1_ : Aside0 (wr.heap[gb199]? = some (.cells #[.int .i64 (wrap64 (rd l0 0)), .int .i64 (wrap64 (rd l0 1)), .int .i64 (wrap64 (rd l0 2)), .int .i64 (wrap64 (rd l0 3)), .int .u64 x200004_1] 30 (0, 0))) := ⟨by rw [← hq_]; exact (by (with_reducible repeat (first | refine blk_drewN ?_ _ | refine blk_drew ?_ | refine blk_alloc ?_ _)); exact BK199.out)⟩; have n2_ : Aside0 (Below w.heap.size w wr) := ⟨by rw [← hq_]; exact (by repeat (first | (with_reducible first | exact HB.out | apply below_alloc | apply pw_below_drewN | apply below_drew1 | refine below_set ?_ GE194.out | refine below_set ?_ GE199.out) | exact HB.out))⟩; clear BK194 BK199 HB hq_; have BK194 := n0_; have BK199 := n1_; have HB := n2_; clear n0_ n1_ n2_)); have hcz43_0 : wr.cell? ⟨gb194, 0, none⟩ = some (.int .i64 0) := (blk_cell BK194.out 0).trans rfl; have hcz43_1 : wr.cell? ⟨gb194, 1, none⟩ = some (.int .i64 0) := (blk_cell BK194.out 1).trans rfl; have hcz43_2 : wr.cell? ⟨gb194, 2, none⟩ = some (.int .i64 0) := (blk_cell BK194.out 2).trans rfl; have hcz43_3 : wr.cell? ⟨gb194, 3, none⟩ = some (.int .i64 0) := (blk_cell BK194.out 3).trans rfl; have hcz43_4 : wr.cell? ⟨gb194, 4, none⟩ = some (.int .u64 0) := (blk_cell BK194.out 4).trans rfl; have hfz43_0 := blk_frozen BK194.out 0; have hfz43_1 := blk_frozen BK194.out 1; have hfz43_2 := blk_frozen BK194.out 2; have hfz43_3 := blk_frozen BK194.out 3; have hfz43_4 := blk_frozen BK194.out 4))
                        refine bodyPost_ret (results_ctt rfl _ _ gb194 30 #[.int .i64 0, .int .i64 0, .int .i64 0, .int .i64 0, .int .u64 0] (0, 0) _ rfl (by (with_reducible repeat (first | refine blk_drewN ?_ _ | refine blk_drew ?_ | refine blk_alloc ?_ _)); refine blk_put (cs := #[.int .i64 0, .int .i64 0, .int .i64 0, .int .i64 0, .int .u64 0]) ?_ 4 _ rfl; (with_reducible repeat (first | refine blk_drewN ?_ _ | refine blk_drew ?_ | refine blk_alloc ?_ _)); refine blk_put (cs := #[.int .i64 0, .int .i64 0, .int .i64 0, .int .i64 0, .int .u64 0]) ?_ 3 _ rfl; (with_reducible repeat (first | refine blk_drewN ?_ _ | refine blk_drew ?_ | refine blk_alloc ?_ _)); refine blk_put (cs := #[.int .i64 0, .int .i64 0, .int .i64 0, .int .i64 0, .int .u64 0]) ?_ 2 _ rfl; (with_reducible repeat (first | refine blk_drewN ?_ _ | refine blk_drew ?_ | refine blk_alloc ?_ _)); refine blk_put (cs := #[.int .i64 0, .int .i64 0, .int .i64 0, .int .i64 0, .int .u64 0]) ?_ 1 _ rfl; (with_reducible repeat (first | refine blk_drewN ?_ _ | refine blk_drew ?_ | refine blk_alloc ?_ _)); refine blk_put (cs := #[.int .i64 0, .int .i64 0, .int .i64 0, .int .i64 0, .int .u64 0]) ?_ 0 _ rfl; (with_reducible repeat (first | refine blk_drewN ?_ _ | refine blk_drew ?_ | refine blk_alloc ?_ _)); exact BK194.out) Try.underlying30 rfl (by kernel_rfl)) rfl ?_
                        exact ⟨by first | rfl | (simp [errW_none, errW_some] <;> rfl) | (simp [*, errW_none, errW_some] <;> rfl), by repeat (first | (with_reducible first | exact HB.out | apply below_alloc | apply pw_below_drewN | apply below_drew1 | refine below_set ?_ GE194.out | refine below_set ?_ GE199.out) | exact HB.out)⟩
              · rw [if_neg c10] at H
                exact absurd H (by simp)
            · rw [if_neg c9] at H
              exact absurd H (by simp)
          · rw [if_neg c8] at H
            exact absurd H (by simp)
        · rw [if_neg c7] at H
          exact absurd H (by simp)
      · rw [if_neg c6] at H
        exact absurd H (by simp)
    · rw [if_neg c5] at H
      exact absurd H (by simp)

end Go.Proofs.Ytmgfmabmliphfaa.P
