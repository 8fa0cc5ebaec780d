/- What Go functions compute, and their walks: written by a program of this session (a turned copy of the kit's print) out of the translation. -/
import Derived.Test.YtmgfmabmliphfaaPx0
import Derived.Test.YtmgfmabmliphfaaPx15
import Derived.Test.YtmgfmabmliphfaaPx16
import Derived.Test.YtmgfmabmliphfaaPx17
namespace Go.Proofs.Ytmgfmabmliphfaa.P
open Go.RowKit Go.Proofs.YtmgfmabmliphfaaW.PrintWords Go.Proofs.YtmgfmabmliphfaaW.PrintLast Go.Proofs.YtmgfmabmliphfaaW.PrintMore
attribute [local go_sem] max2_int min2_int max_two min_two max_three min_three max_four min_four   -- for this text's walks alone
set_option linter.unusedVariables false
set_option linter.unusedSimpArgs false

/-! ### backreachref02_Wrong: function 22 -/
mutual
def backreachref02_Wrong.j0 : Nat → Bool → Int → Int → Int → Int → Int → Option (Int)
  | 0, _, _, _, _, _, _ => none
  | k + 1, x11, x176000, x176001, x176002, x176003, x176004 => if x11 = true then (some 0) else ((backreachref02_Has.f k x176000).bind fun t176 => ((backreachref02_register.f k t176 97 x176001).bind fun t177 => (if t177 = true then ((backreachref02_register.f k t176 98 x176002).bind fun t178 => (if t178 = true then ((backreachref02_in.f k t176 119).bind fun t179 => (if t179 = true then (if x176003 = 1 then (backreachref02_Wrong.j1 k t176 false x176000 x176001 x176002 x176003 x176004) else (if x176003 = 2 then (backreachref02_Wrong.j1 k t176 false x176000 x176001 x176002 x176003 x176004) else (if x176003 = 4 then (backreachref02_Wrong.j1 k t176 false x176000 x176001 x176002 x176003 x176004) else (backreachref02_Wrong.j1 k t176 (x176003 != 8) x176000 x176001 x176002 x176003 x176004)))) else ((backreachref02_register.f k t176 99 x176003).bind fun t180 => (if t180 = true then (backreachref02_Wrong.j2 k t176 x176000 x176001 x176002 x176003 x176004) else (some 3))))) else (some 2))) else (some 1))))
def backreachref02_Wrong.j2 : Nat → ByteArray → Int → Int → Int → Int → Int → Option (Int)
  | 0, _, _, _, _, _, _ => none
  | k + 1, x3, x176000, x176001, x176002, x176003, x176004 => (backreachref02_in.f k x3 105).bind fun t181 => (if t181 = true then (some (-1)) else (if x176004 = 0 then (some (-1)) else (some 4)))
def backreachref02_Wrong.j1 : Nat → ByteArray → Bool → Int → Int → Int → Int → Int → Option (Int)
  | 0, _, _, _, _, _, _, _ => none
  | k + 1, x3, x44, x176000, x176001, x176002, x176003, x176004 => if x44 = true then (some 3) else (backreachref02_Wrong.j2 k x3 x176000 x176001 x176002 x176003 x176004)
end
def backreachref02_Wrong.f (k : Nat) (a0_0 : Int) (a0_1 : Int) (a0_2 : Int) (a0_3 : Int) (a0_4 : Int) : Option (Int) := if a0_0 < 0 then (backreachref02_Wrong.j0 k true a0_0 a0_1 a0_2 a0_3 a0_4) else (backreachref02_Wrong.j0 k (decide (a0_0 > 25)) a0_0 a0_1 a0_2 a0_3 a0_4)
theorem backreachref02_Wrong.mono_l : ∀ k, (∀ y0 y1 y2 y3 y4 y5, LeO (backreachref02_Wrong.j0 k y0 y1 y2 y3 y4 y5) (backreachref02_Wrong.j0 (k + 1) y0 y1 y2 y3 y4 y5)) ∧ (∀ y0 y1 y2 y3 y4 y5, LeO (backreachref02_Wrong.j2 k y0 y1 y2 y3 y4 y5) (backreachref02_Wrong.j2 (k + 1) y0 y1 y2 y3 y4 y5)) ∧ (∀ y0 y1 y2 y3 y4 y5 y6, LeO (backreachref02_Wrong.j1 k y0 y1 y2 y3 y4 y5 y6) (backreachref02_Wrong.j1 (k + 1) y0 y1 y2 y3 y4 y5 y6))
  | 0 => ⟨fun _ _ _ _ _ _ r h => by simp [backreachref02_Wrong.j0] at h, fun _ _ _ _ _ _ r h => by simp [backreachref02_Wrong.j2] at h, fun _ _ _ _ _ _ _ r h => by simp [backreachref02_Wrong.j1] at h⟩
  | k + 1 => by
    obtain ⟨ih0, ih1, ih2⟩ := backreachref02_Wrong.mono_l k
    refine ⟨?_, ?_, ?_⟩
    · intro y0 y1 y2 y3 y4 y5
      unfold backreachref02_Wrong.j0
      repeat' first
      | (with_reducible exact ih0 _ _ _ _ _ _)
      | (with_reducible exact ih1 _ _ _ _ _ _)
      | (with_reducible exact ih2 _ _ _ _ _ _ _)
      | (with_reducible exact backreachref02_Has.mono _ _)
      | (with_reducible exact backreachref02_in.mono _ _ _)
      | (with_reducible exact backreachref02_register.mono _ _ _ _)
      | (with_reducible exact LeO.refl _)
      | (with_reducible exact LeO.none _)
      | (with_reducible refine LeO.ite ?_ ?_)
      | (with_reducible refine LeO.bind ?_ (fun _ => ?_))
      | exact ih0 _ _ _ _ _ _
      | exact ih1 _ _ _ _ _ _
      | exact ih2 _ _ _ _ _ _ _
      | exact backreachref02_Has.mono _ _
      | exact backreachref02_in.mono _ _ _
      | exact backreachref02_register.mono _ _ _ _
      | exact LeO.none _
      | refine LeO.ite ?_ ?_
      | refine LeO.bind ?_ (fun _ => ?_)
    · intro y0 y1 y2 y3 y4 y5
      unfold backreachref02_Wrong.j2
      repeat' first
      | (with_reducible exact ih0 _ _ _ _ _ _)
      | (with_reducible exact ih1 _ _ _ _ _ _)
      | (with_reducible exact ih2 _ _ _ _ _ _ _)
      | (with_reducible exact backreachref02_Has.mono _ _)
      | (with_reducible exact backreachref02_in.mono _ _ _)
      | (with_reducible exact backreachref02_register.mono _ _ _ _)
      | (with_reducible exact LeO.refl _)
      | (with_reducible exact LeO.none _)
      | (with_reducible refine LeO.ite ?_ ?_)
      | (with_reducible refine LeO.bind ?_ (fun _ => ?_))
      | exact ih0 _ _ _ _ _ _
      | exact ih1 _ _ _ _ _ _
      | exact ih2 _ _ _ _ _ _ _
      | exact backreachref02_Has.mono _ _
      | exact backreachref02_in.mono _ _ _
      | exact backreachref02_register.mono _ _ _ _
      | exact LeO.none _
      | refine LeO.ite ?_ ?_
      | refine LeO.bind ?_ (fun _ => ?_)
    · intro y0 y1 y2 y3 y4 y5 y6
      unfold backreachref02_Wrong.j1
      repeat' first
      | (with_reducible exact ih0 _ _ _ _ _ _)
      | (with_reducible exact ih1 _ _ _ _ _ _)
      | (with_reducible exact ih2 _ _ _ _ _ _ _)
      | (with_reducible exact backreachref02_Has.mono _ _)
      | (with_reducible exact backreachref02_in.mono _ _ _)
      | (with_reducible exact backreachref02_register.mono _ _ _ _)
      | (with_reducible exact LeO.refl _)
      | (with_reducible exact LeO.none _)
      | (with_reducible refine LeO.ite ?_ ?_)
      | (with_reducible refine LeO.bind ?_ (fun _ => ?_))
      | exact ih0 _ _ _ _ _ _
      | exact ih1 _ _ _ _ _ _
      | exact ih2 _ _ _ _ _ _ _
      | exact backreachref02_Has.mono _ _
      | exact backreachref02_in.mono _ _ _
      | exact backreachref02_register.mono _ _ _ _
      | exact LeO.none _
      | refine LeO.ite ?_ ?_
      | refine LeO.bind ?_ (fun _ => ?_)
theorem backreachref02_Wrong.mono : ∀ a0 a1 a2 a3 a4 k, LeO (backreachref02_Wrong.f k a0 a1 a2 a3 a4) (backreachref02_Wrong.f (k + 1) a0 a1 a2 a3 a4) := by
  intro a0 a1 a2 a3 a4 k
  obtain ⟨ih0, ih1, ih2⟩ := backreachref02_Wrong.mono_l k
  unfold backreachref02_Wrong.f
  repeat' first
      | (with_reducible exact ih0 _ _ _ _ _ _)
      | (with_reducible exact ih1 _ _ _ _ _ _)
      | (with_reducible exact ih2 _ _ _ _ _ _ _)
      | (with_reducible exact backreachref02_Has.mono _ _)
      | (with_reducible exact backreachref02_in.mono _ _ _)
      | (with_reducible exact backreachref02_register.mono _ _ _ _)
      | (with_reducible exact LeO.refl _)
      | (with_reducible exact LeO.none _)
      | (with_reducible refine LeO.ite ?_ ?_)
      | (with_reducible refine LeO.bind ?_ (fun _ => ?_))
      | exact ih0 _ _ _ _ _ _
      | exact ih1 _ _ _ _ _ _
      | exact ih2 _ _ _ _ _ _ _
      | exact backreachref02_Has.mono _ _
      | exact backreachref02_in.mono _ _ _
      | exact backreachref02_register.mono _ _ _ _
      | exact LeO.none _
      | refine LeO.ite ?_ ?_
      | refine LeO.bind ?_ (fun _ => ?_)
set_option maxHeartbeats 8000000 in
set_option maxRecDepth 100000 in
theorem backreachref02_Wrong.calls (k : Nat) (a0_0 : Int) (a0_1 : Int) (a0_2 : Int) (a0_3 : Int) (a0_4 : Int) (r : Int) (w : World) (h : backreachref02_Wrong.f k a0_0 a0_1 a0_2 a0_3 a0_4 = some r) :
    Calls Try.prog 22 #[.agg #[.int .i64 a0_0, .int .i64 a0_1, .int .i64 a0_2, .int .i64 a0_3, .int .u64 a0_4]] w fun e w' => e = .returned (.int .i64 r) ∧ Below w.heap.size w w' := by
  have hu30 := Try.underlying30
  have HB := Aside0.mk (Below.refl w.heap.size w)
  have H : (if a0_0 < 0 then (backreachref02_Wrong.j0 k true a0_0 a0_1 a0_2 a0_3 a0_4) else (backreachref02_Wrong.j0 k (decide (a0_0 > 25)) a0_0 a0_1 a0_2 a0_3 a0_4)) = some r := h
  clear h
  have HC2 := Aside0.mk H
  clear H
  go_enter Try.func22, Try.ntmps22
  go_upto_region 1 with (first | ((with_reducible refine gate_dst (N := 1) rfl ?_); refine box_event ?hg (N := 1) ?hd (cs := #[.int .i64 a0_0, .int .i64 a0_1, .int .i64 a0_2, .int .i64 a0_3, .int .u64 a0_4]) (t := 30) ?hr ?_; (case hd => rfl); (case hg => rfl); (case hr => first | (go_simp; done) | (go_simp; rfl)); intro gb175 hg w3 hbox hb; have n0_ := Aside0.mk (below_step (by repeat (first | (with_reducible first | exact HB.out | apply below_alloc | apply pw_below_drewN | apply below_drew1) | exact HB.out)) hb); have n1_ := Aside0.mk (hbox); have n2_ := Aside0.mk ((by rw [hg]; exact (below_size (by repeat (first | (with_reducible first | exact HB.out | apply below_alloc | apply pw_below_drewN | apply below_drew1) | exact HB.out))) : w.heap.size ≤ gb175)); have n3_ := Aside0.mk ((by rw [hg]; exact (below_size (by repeat (first | (with_reducible first | exact HB.out | apply below_alloc | apply pw_below_drewN | apply below_drew1) | exact HB.out))) : w.heap.size ≤ gb175)); clear HB; have HB := n0_; have BK175 := n1_; have GW175 := n2_; have GE175 := n3_; clear n0_ n1_ n2_ n3_; clear hb hbox hg))
  (try simp only [Act.put, List.setIfInBounds_toArray, List.set_cons_zero, List.set_cons_succ])
  go_cut [11] (fun v11 wc => ∃ (kq : Nat) (x11_1 : Bool), v11 = .bool x11_1 ∧ Aside0 (backreachref02_Wrong.j0 kq x11_1 a0_0 a0_1 a0_2 a0_3 a0_4 = some r) ∧ Aside0 (kq ≤ k) ∧ Aside0 (wc.heap[gb175]? = some (.cells #[.int .i64 a0_0, .int .i64 a0_1, .int .i64 a0_2, .int .i64 a0_3, .int .u64 a0_4] 30 (0, 0))) ∧ Aside0 (Below w.heap.size w wc))
  case first =>
    have H := HC2.out
    clear HC2
    by_cases c4 : a0_0 < 0
    · rw [if_pos c4] at H
      have c4b0 : decide (a0_0 < 0) = true := decide_eq_true c4
      clear c4
      (first | rw [c4b0] | (simp only [i64_w, i32_w]; rw [c4b0]) | skip)
      have H' := Aside0.mk H
      clear H
      have hcz5_0 : w3.cell? ⟨gb175, 0, none⟩ = some (.int .i64 a0_0) := (blk_cell BK175.out 0).trans rfl
      have hcz5_1 : w3.cell? ⟨gb175, 1, none⟩ = some (.int .i64 a0_1) := (blk_cell BK175.out 1).trans rfl
      have hcz5_2 : w3.cell? ⟨gb175, 2, none⟩ = some (.int .i64 a0_2) := (blk_cell BK175.out 2).trans rfl
      have hcz5_3 : w3.cell? ⟨gb175, 3, none⟩ = some (.int .i64 a0_3) := (blk_cell BK175.out 3).trans rfl
      have hcz5_4 : w3.cell? ⟨gb175, 4, none⟩ = some (.int .u64 a0_4) := (blk_cell BK175.out 4).trans rfl
      have hfz5_0 := blk_frozen BK175.out 0
      have hfz5_1 := blk_frozen BK175.out 1
      have hfz5_2 := blk_frozen BK175.out 2
      have hfz5_3 := blk_frozen BK175.out 3
      have hfz5_4 := blk_frozen BK175.out 4
      go_wp2
      go_meet
      case rel => exact ⟨_, (true), (by first | rfl | (simp; done) | (simp [*]; done)), H', ⟨by first | omega | exact Nat.le_refl _⟩, ⟨by (with_reducible repeat (first | refine blk_drewN ?_ _ | refine blk_drew ?_ | refine blk_alloc ?_ _)); exact BK175.out⟩, ⟨by repeat (first | (with_reducible first | exact HB.out | apply below_alloc | apply pw_below_drewN | apply below_drew1 | refine below_set ?_ GE175.out) | exact HB.out)⟩⟩
    · rw [if_neg c4] at H
      have c4b0 : decide (a0_0 < 0) = false := decide_eq_false c4
      clear c4
      (first | rw [c4b0] | (simp only [i64_w, i32_w]; rw [c4b0]) | skip)
      have H' := Aside0.mk H
      clear H
      have hcz6_0 : w3.cell? ⟨gb175, 0, none⟩ = some (.int .i64 a0_0) := (blk_cell BK175.out 0).trans rfl
      have hcz6_1 : w3.cell? ⟨gb175, 1, none⟩ = some (.int .i64 a0_1) := (blk_cell BK175.out 1).trans rfl
      have hcz6_2 : w3.cell? ⟨gb175, 2, none⟩ = some (.int .i64 a0_2) := (blk_cell BK175.out 2).trans rfl
      have hcz6_3 : w3.cell? ⟨gb175, 3, none⟩ = some (.int .i64 a0_3) := (blk_cell BK175.out 3).trans rfl
      have hcz6_4 : w3.cell? ⟨gb175, 4, none⟩ = some (.int .u64 a0_4) := (blk_cell BK175.out 4).trans rfl
      have hfz6_0 := blk_frozen BK175.out 0
      have hfz6_1 := blk_frozen BK175.out 1
      have hfz6_2 := blk_frozen BK175.out 2
      have hfz6_3 := blk_frozen BK175.out 3
      have hfz6_4 := blk_frozen BK175.out 4
      go_wp2
      go_meet
      case rel => exact ⟨_, (decide (a0_0 > 25)), (by first | rfl | (simp; done) | (simp [*]; done)), H', ⟨by first | omega | exact Nat.le_refl _⟩, ⟨by (with_reducible repeat (first | refine blk_drewN ?_ _ | refine blk_drew ?_ | refine blk_alloc ?_ _)); exact BK175.out⟩, ⟨by repeat (first | (with_reducible first | exact HB.out | apply below_alloc | apply pw_below_drewN | apply below_drew1 | refine below_set ?_ GE175.out) | exact HB.out)⟩⟩
  case rest =>
    clear HC2
    try clear c2
    try clear p2
    try clear c4
    try clear c4b0
    try clear hcz5_0
    try clear hcz5_1
    try clear hcz5_2
    try clear hcz5_3
    try clear hcz5_4
    try clear hcz6_0
    try clear hcz6_1
    try clear hcz6_2
    try clear hcz6_3
    try clear hcz6_4
    try clear hfz5_0
    try clear hfz5_1
    try clear hfz5_2
    try clear hfz5_3
    try clear hfz5_4
    try clear hfz6_0
    try clear hfz6_1
    try clear hfz6_2
    try clear hfz6_3
    try clear hfz6_4
    obtain ⟨kq, x11_1, rfl, HA, HJ1, BK175, HB⟩ := hcut
    cases kq with
    | zero => exact absurd HA.out (by simp [backreachref02_Wrong.j0])
    | succ kj1 =>
      have H := HA.out
      clear HA
      simp only [backreachref02_Wrong.j0] at H
      by_cases c7 : x11_1 = true
      · subst c7
        have H1 : (some 0) = some r := by rw [if_pos rfl] at H; exact H
        clear H
        have H := H1
        clear H1
        obtain rfl := Option.some.inj H
        go_wp2
        go_ret
        exact ⟨by first | rfl | (simp [errW_none, errW_some] <;> rfl) | (simp [*, errW_none, errW_some] <;> rfl), by repeat (first | (with_reducible first | exact HB.out | apply below_alloc | apply pw_below_drewN | apply below_drew1 | refine below_set ?_ GE175.out) | exact HB.out)⟩
      · replace c7 := Bool.eq_false_iff.mpr c7
        subst c7
        have H1 : ((backreachref02_Has.f kj1 a0_0).bind fun t176 => ((backreachref02_register.f kj1 t176 97 a0_1).bind fun t177 => (if t177 = true then ((backreachref02_register.f kj1 t176 98 a0_2).bind fun t178 => (if t178 = true then ((backreachref02_in.f kj1 t176 119).bind fun t179 => (if t179 = true then (if a0_3 = 1 then (backreachref02_Wrong.j1 kj1 t176 false a0_0 a0_1 a0_2 a0_3 a0_4) else (if a0_3 = 2 then (backreachref02_Wrong.j1 kj1 t176 false a0_0 a0_1 a0_2 a0_3 a0_4) else (if a0_3 = 4 then (backreachref02_Wrong.j1 kj1 t176 false a0_0 a0_1 a0_2 a0_3 a0_4) else (backreachref02_Wrong.j1 kj1 t176 (a0_3 != 8) a0_0 a0_1 a0_2 a0_3 a0_4)))) else ((backreachref02_register.f kj1 t176 99 a0_3).bind fun t180 => (if t180 = true then (backreachref02_Wrong.j2 kj1 t176 a0_0 a0_1 a0_2 a0_3 a0_4) else (some 3))))) else (some 2))) else (some 1)))) = some r := by rw [if_neg (show ¬ (false = true) by decide)] at H; exact H
        clear H
        have H := H1
        clear H1
        replace H := Option.bind_eq_some_iff.mp H
        obtain ⟨t176, A80, H⟩ := H
        replace H : ((backreachref02_register.f kj1 t176 97 a0_1).bind fun t177 => (if t177 = true then ((backreachref02_register.f kj1 t176 98 a0_2).bind fun t178 => (if t178 = true then ((backreachref02_in.f kj1 t176 119).bind fun t179 => (if t179 = true then (if a0_3 = 1 then (backreachref02_Wrong.j1 kj1 t176 false a0_0 a0_1 a0_2 a0_3 a0_4) else (if a0_3 = 2 then (backreachref02_Wrong.j1 kj1 t176 false a0_0 a0_1 a0_2 a0_3 a0_4) else (if a0_3 = 4 then (backreachref02_Wrong.j1 kj1 t176 false a0_0 a0_1 a0_2 a0_3 a0_4) else (backreachref02_Wrong.j1 kj1 t176 (a0_3 != 8) a0_0 a0_1 a0_2 a0_3 a0_4)))) else ((backreachref02_register.f kj1 t176 99 a0_3).bind fun t180 => (if t180 = true then (backreachref02_Wrong.j2 kj1 t176 a0_0 a0_1 a0_2 a0_3 a0_4) else (some 3))))) else (some 2))) else (some 1))) = some r := H
        have A8 := Aside0.mk A80
        clear A80
        replace H := Option.bind_eq_some_iff.mp H
        obtain ⟨t177, A90, H⟩ := H
        replace H : (if t177 = true then ((backreachref02_register.f kj1 t176 98 a0_2).bind fun t178 => (if t178 = true then ((backreachref02_in.f kj1 t176 119).bind fun t179 => (if t179 = true then (if a0_3 = 1 then (backreachref02_Wrong.j1 kj1 t176 false a0_0 a0_1 a0_2 a0_3 a0_4) else (if a0_3 = 2 then (backreachref02_Wrong.j1 kj1 t176 false a0_0 a0_1 a0_2 a0_3 a0_4) else (if a0_3 = 4 then (backreachref02_Wrong.j1 kj1 t176 false a0_0 a0_1 a0_2 a0_3 a0_4) else (backreachref02_Wrong.j1 kj1 t176 (a0_3 != 8) a0_0 a0_1 a0_2 a0_3 a0_4)))) else ((backreachref02_register.f kj1 t176 99 a0_3).bind fun t180 => (if t180 = true then (backreachref02_Wrong.j2 kj1 t176 a0_0 a0_1 a0_2 a0_3 a0_4) else (some 3))))) else (some 2))) else (some 1)) = some r := H
        have A9 := Aside0.mk A90
        clear A90
        by_cases c10 : t177 = true
        · subst c10
          have H1 : ((backreachref02_register.f kj1 t176 98 a0_2).bind fun t178 => (if t178 = true then ((backreachref02_in.f kj1 t176 119).bind fun t179 => (if t179 = true then (if a0_3 = 1 then (backreachref02_Wrong.j1 kj1 t176 false a0_0 a0_1 a0_2 a0_3 a0_4) else (if a0_3 = 2 then (backreachref02_Wrong.j1 kj1 t176 false a0_0 a0_1 a0_2 a0_3 a0_4) else (if a0_3 = 4 then (backreachref02_Wrong.j1 kj1 t176 false a0_0 a0_1 a0_2 a0_3 a0_4) else (backreachref02_Wrong.j1 kj1 t176 (a0_3 != 8) a0_0 a0_1 a0_2 a0_3 a0_4)))) else ((backreachref02_register.f kj1 t176 99 a0_3).bind fun t180 => (if t180 = true then (backreachref02_Wrong.j2 kj1 t176 a0_0 a0_1 a0_2 a0_3 a0_4) else (some 3))))) else (some 2))) = some r := by rw [if_pos rfl] at H; exact H
          clear H
          have H := H1
          clear H1
          replace H := Option.bind_eq_some_iff.mp H
          obtain ⟨t178, A110, H⟩ := H
          replace H : (if t178 = true then ((backreachref02_in.f kj1 t176 119).bind fun t179 => (if t179 = true then (if a0_3 = 1 then (backreachref02_Wrong.j1 kj1 t176 false a0_0 a0_1 a0_2 a0_3 a0_4) else (if a0_3 = 2 then (backreachref02_Wrong.j1 kj1 t176 false a0_0 a0_1 a0_2 a0_3 a0_4) else (if a0_3 = 4 then (backreachref02_Wrong.j1 kj1 t176 false a0_0 a0_1 a0_2 a0_3 a0_4) else (backreachref02_Wrong.j1 kj1 t176 (a0_3 != 8) a0_0 a0_1 a0_2 a0_3 a0_4)))) else ((backreachref02_register.f kj1 t176 99 a0_3).bind fun t180 => (if t180 = true then (backreachref02_Wrong.j2 kj1 t176 a0_0 a0_1 a0_2 a0_3 a0_4) else (some 3))))) else (some 2)) = some r := H
          have A11 := Aside0.mk A110
          clear A110
          by_cases c12 : t178 = true
          · subst c12
            have H1 : ((backreachref02_in.f kj1 t176 119).bind fun t179 => (if t179 = true then (if a0_3 = 1 then (backreachref02_Wrong.j1 kj1 t176 false a0_0 a0_1 a0_2 a0_3 a0_4) else (if a0_3 = 2 then (backreachref02_Wrong.j1 kj1 t176 false a0_0 a0_1 a0_2 a0_3 a0_4) else (if a0_3 = 4 then (backreachref02_Wrong.j1 kj1 t176 false a0_0 a0_1 a0_2 a0_3 a0_4) else (backreachref02_Wrong.j1 kj1 t176 (a0_3 != 8) a0_0 a0_1 a0_2 a0_3 a0_4)))) else ((backreachref02_register.f kj1 t176 99 a0_3).bind fun t180 => (if t180 = true then (backreachref02_Wrong.j2 kj1 t176 a0_0 a0_1 a0_2 a0_3 a0_4) else (some 3))))) = some r := by rw [if_pos rfl] at H; exact H
            clear H
            have H := H1
            clear H1
            replace H := Option.bind_eq_some_iff.mp H
            obtain ⟨t179, A130, H⟩ := H
            replace H : (if t179 = true then (if a0_3 = 1 then (backreachref02_Wrong.j1 kj1 t176 false a0_0 a0_1 a0_2 a0_3 a0_4) else (if a0_3 = 2 then (backreachref02_Wrong.j1 kj1 t176 false a0_0 a0_1 a0_2 a0_3 a0_4) else (if a0_3 = 4 then (backreachref02_Wrong.j1 kj1 t176 false a0_0 a0_1 a0_2 a0_3 a0_4) else (backreachref02_Wrong.j1 kj1 t176 (a0_3 != 8) a0_0 a0_1 a0_2 a0_3 a0_4)))) else ((backreachref02_register.f kj1 t176 99 a0_3).bind fun t180 => (if t180 = true then (backreachref02_Wrong.j2 kj1 t176 a0_0 a0_1 a0_2 a0_3 a0_4) else (some 3)))) = some r := H
            have A13 := Aside0.mk A130
            clear A130
            have HC14 := Aside0.mk H
            clear H
            have hcz15_0 : wc.cell? ⟨gb175, 0, none⟩ = some (.int .i64 a0_0) := (blk_cell BK175.out 0).trans rfl
            have hcz15_1 : wc.cell? ⟨gb175, 1, none⟩ = some (.int .i64 a0_1) := (blk_cell BK175.out 1).trans rfl
            have hcz15_2 : wc.cell? ⟨gb175, 2, none⟩ = some (.int .i64 a0_2) := (blk_cell BK175.out 2).trans rfl
            have hcz15_3 : wc.cell? ⟨gb175, 3, none⟩ = some (.int .i64 a0_3) := (blk_cell BK175.out 3).trans rfl
            have hcz15_4 : wc.cell? ⟨gb175, 4, none⟩ = some (.int .u64 a0_4) := (blk_cell BK175.out 4).trans rfl
            have hfz15_0 := blk_frozen BK175.out 0
            have hfz15_1 := blk_frozen BK175.out 1
            have hfz15_2 := blk_frozen BK175.out 2
            have hfz15_3 := blk_frozen BK175.out 3
            have hfz15_4 := blk_frozen BK175.out 4
            go_upto_if 26 with (first | ((with_reducible refine gate_callee (f := 26) rfl ?_); refine goesL_ (some 14) rfl rfl Try.func26 (by kernel_rfl) rfl #[.int .i64 a0_0] rfl (by (try simp only [List.map_toArray, List.map_cons, List.map_nil]); first | done | rfl | (simp only [List.length_drop, List.length_take]; rfl)) ?_; (with_reducible refine (backreachref02_Has.calls kj1 a0_0 t176 _ A8.out).mono ?_); rintro e w' ⟨rfl, ⟨nd, rfl⟩⟩; refine ⟨_, rfl, ?_⟩) | ((with_reducible refine gate_callee (f := 27) rfl ?_); refine goesL_ (some 18) rfl rfl Try.func27 (by kernel_rfl) rfl #[.string t176, .int .u8 97, .int .i64 a0_1] rfl (by (try simp only [List.map_toArray, List.map_cons, List.map_nil]); first | done | rfl | (simp only [List.length_drop, List.length_take]; rfl)) ?_; (with_reducible refine (backreachref02_register.calls kj1 t176 97 a0_1 true _ A9.out).mono ?_); rintro e w' ⟨rfl, ⟨nd, rfl⟩⟩; refine ⟨_, rfl, ?_⟩) | ((with_reducible refine gate_callee (f := 27) rfl ?_); refine goesL_ (some 23) rfl rfl Try.func27 (by kernel_rfl) rfl #[.string t176, .int .u8 98, .int .i64 a0_2] rfl (by (try simp only [List.map_toArray, List.map_cons, List.map_nil]); first | done | rfl | (simp only [List.length_drop, List.length_take]; rfl)) ?_; (with_reducible refine (backreachref02_register.calls kj1 t176 98 a0_2 true _ A11.out).mono ?_); rintro e w' ⟨rfl, ⟨nd, rfl⟩⟩; refine ⟨_, rfl, ?_⟩) | ((with_reducible refine gate_callee (f := 28) rfl ?_); refine goesL_ (some 26) rfl rfl Try.func28 (by kernel_rfl) rfl #[.string t176, .int .u8 119] rfl (by (try simp only [List.map_toArray, List.map_cons, List.map_nil]); first | done | rfl | (simp only [List.length_drop, List.length_take]; rfl)) ?_; (with_reducible refine (backreachref02_in.calls kj1 t176 119 t179 _ A13.out).mono ?_); rintro e w' ⟨rfl, ⟨nd, rfl⟩⟩; refine ⟨_, rfl, ?_⟩))
            (try simp only [Act.put, List.setIfInBounds_toArray, List.set_cons_zero, List.set_cons_succ])
            go_cut [] (fun wc => ∃ (kq : Nat), Aside0 (backreachref02_Wrong.j2 kq t176 a0_0 a0_1 a0_2 a0_3 a0_4 = some r) ∧ Aside0 (kq ≤ kj1) ∧ Aside0 (wc.heap[gb175]? = some (.cells #[.int .i64 a0_0, .int .i64 a0_1, .int .i64 a0_2, .int .i64 a0_3, .int .u64 a0_4] 30 (0, 0))) ∧ Aside0 (Below w.heap.size w wc))
            case first =>
              have H := HC14.out
              clear HC14
              by_cases c16 : t179 = true
              · subst c16
                have H1 : (if a0_3 = 1 then (backreachref02_Wrong.j1 kj1 t176 false a0_0 a0_1 a0_2 a0_3 a0_4) else (if a0_3 = 2 then (backreachref02_Wrong.j1 kj1 t176 false a0_0 a0_1 a0_2 a0_3 a0_4) else (if a0_3 = 4 then (backreachref02_Wrong.j1 kj1 t176 false a0_0 a0_1 a0_2 a0_3 a0_4) else (backreachref02_Wrong.j1 kj1 t176 (a0_3 != 8) a0_0 a0_1 a0_2 a0_3 a0_4)))) = some r := by rw [if_pos rfl] at H; exact H
                clear H
                have H := H1
                clear H1
                have HC17 := Aside0.mk H
                clear H
                go_upto_region 9 with (fail)
                go_cut [44] (fun v44 wc => ∃ (kq : Nat) (x44_16 : Bool), v44 = .bool x44_16 ∧ Aside0 (backreachref02_Wrong.j1 kq t176 x44_16 a0_0 a0_1 a0_2 a0_3 a0_4 = some r) ∧ Aside0 (kq ≤ kj1) ∧ Aside0 (wc.heap[gb175]? = some (.cells #[.int .i64 a0_0, .int .i64 a0_1, .int .i64 a0_2, .int .i64 a0_3, .int .u64 a0_4] 30 (0, 0))) ∧ Aside0 (Below w.heap.size w wc))
                case first =>
                  have H := HC17.out
                  clear HC17
                  by_cases c18 : a0_3 = 1
                  · rw [if_pos c18] at H
                    have c18b0 : (a0_3 == 1) = true := beq_iff_eq.mpr c18
                    have c18b1 : (a0_3 != 1) = false := bne_eq_false_iff_eq.mpr c18
                    clear c18
                    (first | rw [c18b0] | (simp only [i64_w, i32_w]; rw [c18b0]) | skip)
                    have H' := Aside0.mk H
                    clear H
                    have hcz19_0 : wc.cell? ⟨gb175, 0, none⟩ = some (.int .i64 a0_0) := (blk_cell BK175.out 0).trans rfl
                    have hcz19_1 : wc.cell? ⟨gb175, 1, none⟩ = some (.int .i64 a0_1) := (blk_cell BK175.out 1).trans rfl
                    have hcz19_2 : wc.cell? ⟨gb175, 2, none⟩ = some (.int .i64 a0_2) := (blk_cell BK175.out 2).trans rfl
                    have hcz19_3 : wc.cell? ⟨gb175, 3, none⟩ = some (.int .i64 a0_3) := (blk_cell BK175.out 3).trans rfl
                    have hcz19_4 : wc.cell? ⟨gb175, 4, none⟩ = some (.int .u64 a0_4) := (blk_cell BK175.out 4).trans rfl
                    have hfz19_0 := blk_frozen BK175.out 0
                    have hfz19_1 := blk_frozen BK175.out 1
                    have hfz19_2 := blk_frozen BK175.out 2
                    have hfz19_3 := blk_frozen BK175.out 3
                    have hfz19_4 := blk_frozen BK175.out 4
                    go_wp2
                    go_meet
                    case rel => exact ⟨_, (false), (by first | rfl | (simp; done) | (simp [*]; done)), H', ⟨by have := HJ1.out; first | omega | exact Nat.le_refl _⟩, ⟨by (with_reducible repeat (first | refine blk_drewN ?_ _ | refine blk_drew ?_ | refine blk_alloc ?_ _)); exact BK175.out⟩, ⟨by repeat (first | (with_reducible first | exact HB.out | apply below_alloc | apply pw_below_drewN | apply below_drew1 | refine below_set ?_ GE175.out) | exact HB.out)⟩⟩
                  · rw [if_neg c18] at H
                    have c18b0 : (a0_3 == 1) = false := beq_eq_false_iff_ne.mpr c18
                    have c18b1 : (a0_3 != 1) = true := bne_iff_ne.mpr c18
                    (first | rw [c18b0] | (simp only [i64_w, i32_w]; rw [c18b0]) | skip)
                    by_cases c20 : a0_3 = 2
                    · rw [if_pos c20] at H
                      have c20b0 : (a0_3 == 2) = true := beq_iff_eq.mpr c20
                      have c20b1 : (a0_3 != 2) = false := bne_eq_false_iff_eq.mpr c20
                      clear c20
                      have H' := Aside0.mk H
                      clear H
                      have hcz21_0 : wc.cell? ⟨gb175, 0, none⟩ = some (.int .i64 a0_0) := (blk_cell BK175.out 0).trans rfl
                      have hcz21_1 : wc.cell? ⟨gb175, 1, none⟩ = some (.int .i64 a0_1) := (blk_cell BK175.out 1).trans rfl
                      have hcz21_2 : wc.cell? ⟨gb175, 2, none⟩ = some (.int .i64 a0_2) := (blk_cell BK175.out 2).trans rfl
                      have hcz21_3 : wc.cell? ⟨gb175, 3, none⟩ = some (.int .i64 a0_3) := (blk_cell BK175.out 3).trans rfl
                      have hcz21_4 : wc.cell? ⟨gb175, 4, none⟩ = some (.int .u64 a0_4) := (blk_cell BK175.out 4).trans rfl
                      have hfz21_0 := blk_frozen BK175.out 0
                      have hfz21_1 := blk_frozen BK175.out 1
                      have hfz21_2 := blk_frozen BK175.out 2
                      have hfz21_3 := blk_frozen BK175.out 3
                      have hfz21_4 := blk_frozen BK175.out 4
                      go_wp2
                      go_meet
                      case rel => exact ⟨_, (false), (by first | rfl | (simp; done) | (simp [*]; done)), H', ⟨by have := HJ1.out; first | omega | exact Nat.le_refl _⟩, ⟨by (with_reducible repeat (first | refine blk_drewN ?_ _ | refine blk_drew ?_ | refine blk_alloc ?_ _)); exact BK175.out⟩, ⟨by repeat (first | (with_reducible first | exact HB.out | apply below_alloc | apply pw_below_drewN | apply below_drew1 | refine below_set ?_ GE175.out) | exact HB.out)⟩⟩
                    · rw [if_neg c20] at H
                      have c20b0 : (a0_3 == 2) = false := beq_eq_false_iff_ne.mpr c20
                      have c20b1 : (a0_3 != 2) = true := bne_iff_ne.mpr c20
                      by_cases c22 : a0_3 = 4
                      · rw [if_pos c22] at H
                        have c22b0 : (a0_3 == 4) = true := beq_iff_eq.mpr c22
                        have c22b1 : (a0_3 != 4) = false := bne_eq_false_iff_eq.mpr c22
                        clear c22
                        have H' := Aside0.mk H
                        clear H
                        have hcz23_0 : wc.cell? ⟨gb175, 0, none⟩ = some (.int .i64 a0_0) := (blk_cell BK175.out 0).trans rfl
                        have hcz23_1 : wc.cell? ⟨gb175, 1, none⟩ = some (.int .i64 a0_1) := (blk_cell BK175.out 1).trans rfl
                        have hcz23_2 : wc.cell? ⟨gb175, 2, none⟩ = some (.int .i64 a0_2) := (blk_cell BK175.out 2).trans rfl
                        have hcz23_3 : wc.cell? ⟨gb175, 3, none⟩ = some (.int .i64 a0_3) := (blk_cell BK175.out 3).trans rfl
                        have hcz23_4 : wc.cell? ⟨gb175, 4, none⟩ = some (.int .u64 a0_4) := (blk_cell BK175.out 4).trans rfl
                        have hfz23_0 := blk_frozen BK175.out 0
                        have hfz23_1 := blk_frozen BK175.out 1
                        have hfz23_2 := blk_frozen BK175.out 2
                        have hfz23_3 := blk_frozen BK175.out 3
                        have hfz23_4 := blk_frozen BK175.out 4
                        go_wp2
                        go_meet
                        case rel => exact ⟨_, (false), (by first | rfl | (simp; done) | (simp [*]; done)), H', ⟨by have := HJ1.out; first | omega | exact Nat.le_refl _⟩, ⟨by (with_reducible repeat (first | refine blk_drewN ?_ _ | refine blk_drew ?_ | refine blk_alloc ?_ _)); exact BK175.out⟩, ⟨by repeat (first | (with_reducible first | exact HB.out | apply below_alloc | apply pw_below_drewN | apply below_drew1 | refine below_set ?_ GE175.out) | exact HB.out)⟩⟩
                      · rw [if_neg c22] at H
                        have c22b0 : (a0_3 == 4) = false := beq_eq_false_iff_ne.mpr c22
                        have c22b1 : (a0_3 != 4) = true := bne_iff_ne.mpr c22
                        have H' := Aside0.mk H
                        clear H
                        have hcz24_0 : wc.cell? ⟨gb175, 0, none⟩ = some (.int .i64 a0_0) := (blk_cell BK175.out 0).trans rfl
                        have hcz24_1 : wc.cell? ⟨gb175, 1, none⟩ = some (.int .i64 a0_1) := (blk_cell BK175.out 1).trans rfl
                        have hcz24_2 : wc.cell? ⟨gb175, 2, none⟩ = some (.int .i64 a0_2) := (blk_cell BK175.out 2).trans rfl
                        have hcz24_3 : wc.cell? ⟨gb175, 3, none⟩ = some (.int .i64 a0_3) := (blk_cell BK175.out 3).trans rfl
                        have hcz24_4 : wc.cell? ⟨gb175, 4, none⟩ = some (.int .u64 a0_4) := (blk_cell BK175.out 4).trans rfl
                        have hfz24_0 := blk_frozen BK175.out 0
                        have hfz24_1 := blk_frozen BK175.out 1
                        have hfz24_2 := blk_frozen BK175.out 2
                        have hfz24_3 := blk_frozen BK175.out 3
                        have hfz24_4 := blk_frozen BK175.out 4
                        go_wp2
                        go_meet
                        case rel => exact ⟨_, ((a0_3 != 8)), (by first | rfl | (simp; done) | (simp [*]; done)), H', ⟨by have := HJ1.out; first | omega | exact Nat.le_refl _⟩, ⟨by (with_reducible repeat (first | refine blk_drewN ?_ _ | refine blk_drew ?_ | refine blk_alloc ?_ _)); exact BK175.out⟩, ⟨by repeat (first | (with_reducible first | exact HB.out | apply below_alloc | apply pw_below_drewN | apply below_drew1 | refine below_set ?_ GE175.out) | exact HB.out)⟩⟩
                case rest =>
                  clear HC17
                  try clear c1
                  try clear c2
                  try clear p2
                  try clear c4
                  try clear c4b0
                  try clear c7
                  try clear c10
                  try clear c12
                  try clear c16
                  try clear c18
                  try clear c18b0
                  try clear c18b1
                  try clear c20
                  try clear c20b0
                  try clear c20b1
                  try clear c22
                  try clear c22b0
                  try clear c22b1
                  try clear hcz15_0
                  try clear hcz15_1
                  try clear hcz15_2
                  try clear hcz15_3
                  try clear hcz15_4
                  try clear hcz19_0
                  try clear hcz19_1
                  try clear hcz19_2
                  try clear hcz19_3
                  try clear hcz19_4
                  try clear hcz21_0
                  try clear hcz21_1
                  try clear hcz21_2
                  try clear hcz21_3
                  try clear hcz21_4
                  try clear hcz23_0
                  try clear hcz23_1
                  try clear hcz23_2
                  try clear hcz23_3
                  try clear hcz23_4
                  try clear hcz24_0
                  try clear hcz24_1
                  try clear hcz24_2
                  try clear hcz24_3
                  try clear hcz24_4
                  try clear hcz5_0
                  try clear hcz5_1
                  try clear hcz5_2
                  try clear hcz5_3
                  try clear hcz5_4
                  try clear hcz6_0
                  try clear hcz6_1
                  try clear hcz6_2
                  try clear hcz6_3
                  try clear hcz6_4
                  try clear hfz15_0
                  try clear hfz15_1
                  try clear hfz15_2
                  try clear hfz15_3
                  try clear hfz15_4
                  try clear hfz19_0
                  try clear hfz19_1
                  try clear hfz19_2
                  try clear hfz19_3
                  try clear hfz19_4
                  try clear hfz21_0
                  try clear hfz21_1
                  try clear hfz21_2
                  try clear hfz21_3
                  try clear hfz21_4
                  try clear hfz23_0
                  try clear hfz23_1
                  try clear hfz23_2
                  try clear hfz23_3
                  try clear hfz23_4
                  try clear hfz24_0
                  try clear hfz24_1
                  try clear hfz24_2
                  try clear hfz24_3
                  try clear hfz24_4
                  try clear hfz5_0
                  try clear hfz5_1
                  try clear hfz5_2
                  try clear hfz5_3
                  try clear hfz5_4
                  try clear hfz6_0
                  try clear hfz6_1
                  try clear hfz6_2
                  try clear hfz6_3
                  try clear hfz6_4
                  try clear p2
                  obtain ⟨kq, x44_16, rfl, HA, HJ16, BK175, HB⟩ := hcut
                  cases kq with
                  | zero => exact absurd HA.out (by simp [backreachref02_Wrong.j1])
                  | succ kj16 =>
                    have H := HA.out
                    clear HA
                    simp only [backreachref02_Wrong.j1] at H
                    by_cases c25 : x44_16 = true
                    · subst c25
                      have H1 : (some 3) = some r := by rw [if_pos rfl] at H; exact H
                      clear H
                      have H := H1
                      clear H1
                      obtain rfl := Option.some.inj H
                      go_wp2
                      go_ret
                      exact ⟨by first | rfl | (simp [errW_none, errW_some] <;> rfl) | (simp [*, errW_none, errW_some] <;> rfl), by repeat (first | (with_reducible first | exact HB.out | apply below_alloc | apply pw_below_drewN | apply below_drew1 | refine below_set ?_ GE175.out) | exact HB.out)⟩
                    · replace c25 := Bool.eq_false_iff.mpr c25
                      subst c25
                      have H1 : (backreachref02_Wrong.j2 kj16 t176 a0_0 a0_1 a0_2 a0_3 a0_4) = some r := by rw [if_neg (show ¬ (false = true) by decide)] at H; exact H
                      clear H
                      have H := H1
                      clear H1
                      have H' := Aside0.mk H
                      clear H
                      go_wp2
                      go_meet
                      case rel => exact ⟨_, H', ⟨by have := HJ1.out; have := HJ16.out; first | omega | exact Nat.le_refl _⟩, ⟨by (with_reducible repeat (first | refine blk_drewN ?_ _ | refine blk_drew ?_ | refine blk_alloc ?_ _)); exact BK175.out⟩, ⟨by repeat (first | (with_reducible first | exact HB.out | apply below_alloc | apply pw_below_drewN | apply below_drew1 | refine below_set ?_ GE175.out) | exact HB.out)⟩⟩
              · replace c16 := Bool.eq_false_iff.mpr c16
                subst c16
                have H1 : ((backreachref02_register.f kj1 t176 99 a0_3).bind fun t180 => (if t180 = true then (backreachref02_Wrong.j2 kj1 t176 a0_0 a0_1 a0_2 a0_3 a0_4) else (some 3))) = some r := by rw [if_neg (show ¬ (false = true) by decide)] at H; exact H
                clear H
                have H := H1
                clear H1
                replace H := Option.bind_eq_some_iff.mp H
                obtain ⟨t180, A260, H⟩ := H
                replace H : (if t180 = true then (backreachref02_Wrong.j2 kj1 t176 a0_0 a0_1 a0_2 a0_3 a0_4) else (some 3)) = some r := H
                have A26 := Aside0.mk A260
                clear A260
                by_cases c27 : t180 = true
                · subst c27
                  have H1 : (backreachref02_Wrong.j2 kj1 t176 a0_0 a0_1 a0_2 a0_3 a0_4) = some r := by rw [if_pos rfl] at H; exact H
                  clear H
                  have H := H1
                  clear H1
                  have H' := Aside0.mk H
                  clear H
                  have hcz28_0 : wc.cell? ⟨gb175, 0, none⟩ = some (.int .i64 a0_0) := (blk_cell BK175.out 0).trans rfl
                  have hcz28_1 : wc.cell? ⟨gb175, 1, none⟩ = some (.int .i64 a0_1) := (blk_cell BK175.out 1).trans rfl
                  have hcz28_2 : wc.cell? ⟨gb175, 2, none⟩ = some (.int .i64 a0_2) := (blk_cell BK175.out 2).trans rfl
                  have hcz28_3 : wc.cell? ⟨gb175, 3, none⟩ = some (.int .i64 a0_3) := (blk_cell BK175.out 3).trans rfl
                  have hcz28_4 : wc.cell? ⟨gb175, 4, none⟩ = some (.int .u64 a0_4) := (blk_cell BK175.out 4).trans rfl
                  have hfz28_0 := blk_frozen BK175.out 0
                  have hfz28_1 := blk_frozen BK175.out 1
                  have hfz28_2 := blk_frozen BK175.out 2
                  have hfz28_3 := blk_frozen BK175.out 3
                  have hfz28_4 := blk_frozen BK175.out 4
                  go_wp2_with (first | ((with_reducible refine gate_callee (f := 27) rfl ?_); refine goesL_ (some 48) rfl rfl Try.func27 (by kernel_rfl) rfl #[.string t176, .int .u8 99, .int .i64 a0_3] rfl (by (try simp only [List.map_toArray, List.map_cons, List.map_nil]); first | done | rfl | (simp only [List.length_drop, List.length_take]; rfl)) ?_; (with_reducible refine (backreachref02_register.calls kj1 t176 99 a0_3 true _ A26.out).mono ?_); rintro e w' ⟨rfl, ⟨nd, rfl⟩⟩; refine ⟨_, rfl, ?_⟩))
                  go_meet
                  case rel => exact ⟨_, H', ⟨by have := HJ1.out; first | omega | exact Nat.le_refl _⟩, ⟨by (with_reducible repeat (first | refine blk_drewN ?_ _ | refine blk_drew ?_ | refine blk_alloc ?_ _)); exact BK175.out⟩, ⟨by repeat (first | (with_reducible first | exact HB.out | apply below_alloc | apply pw_below_drewN | apply below_drew1 | refine below_set ?_ GE175.out) | exact HB.out)⟩⟩
                · replace c27 := Bool.eq_false_iff.mpr c27
                  subst c27
                  have H1 : (some 3) = some r := by rw [if_neg (show ¬ (false = true) by decide)] at H; exact H
                  clear H
                  have H := H1
                  clear H1
                  obtain rfl := Option.some.inj H
                  have hcz29_0 : wc.cell? ⟨gb175, 0, none⟩ = some (.int .i64 a0_0) := (blk_cell BK175.out 0).trans rfl
                  have hcz29_1 : wc.cell? ⟨gb175, 1, none⟩ = some (.int .i64 a0_1) := (blk_cell BK175.out 1).trans rfl
                  have hcz29_2 : wc.cell? ⟨gb175, 2, none⟩ = some (.int .i64 a0_2) := (blk_cell BK175.out 2).trans rfl
                  have hcz29_3 : wc.cell? ⟨gb175, 3, none⟩ = some (.int .i64 a0_3) := (blk_cell BK175.out 3).trans rfl
                  have hcz29_4 : wc.cell? ⟨gb175, 4, none⟩ = some (.int .u64 a0_4) := (blk_cell BK175.out 4).trans rfl
                  have hfz29_0 := blk_frozen BK175.out 0
                  have hfz29_1 := blk_frozen BK175.out 1
                  have hfz29_2 := blk_frozen BK175.out 2
                  have hfz29_3 := blk_frozen BK175.out 3
                  have hfz29_4 := blk_frozen BK175.out 4
                  go_wp2_with (first | ((with_reducible refine gate_callee (f := 27) rfl ?_); refine goesL_ (some 48) rfl rfl Try.func27 (by kernel_rfl) rfl #[.string t176, .int .u8 99, .int .i64 a0_3] rfl (by (try simp only [List.map_toArray, List.map_cons, List.map_nil]); first | done | rfl | (simp only [List.length_drop, List.length_take]; rfl)) ?_; (with_reducible refine (backreachref02_register.calls kj1 t176 99 a0_3 false _ A26.out).mono ?_); rintro e w' ⟨rfl, ⟨nd, rfl⟩⟩; refine ⟨_, rfl, ?_⟩))
                  go_ret
                  exact ⟨by first | rfl | (simp [errW_none, errW_some] <;> rfl) | (simp [*, errW_none, errW_some] <;> rfl), by repeat (first | (with_reducible first | exact HB.out | apply below_alloc | apply pw_below_drewN | apply below_drew1 | refine below_set ?_ GE175.out) | exact HB.out)⟩
            case rest =>
              clear HC14
              try clear c1
              try clear c2
              try clear p2
              try clear c4
              try clear c4b0
              try clear c7
              try clear c10
              try clear c12
              try clear c16
              try clear c18
              try clear c18b0
              try clear c18b1
              try clear c20
              try clear c20b0
              try clear c20b1
              try clear c22
              try clear c22b0
              try clear c22b1
              try clear c25
              try clear c26
              try clear c27
              try clear c28
              try clear hcz15_0
              try clear hcz15_1
              try clear hcz15_2
              try clear hcz15_3
              try clear hcz15_4
              try clear hcz19_0
              try clear hcz19_1
              try clear hcz19_2
              try clear hcz19_3
              try clear hcz19_4
              try clear hcz21_0
              try clear hcz21_1
              try clear hcz21_2
              try clear hcz21_3
              try clear hcz21_4
              try clear hcz23_0
              try clear hcz23_1
              try clear hcz23_2
              try clear hcz23_3
              try clear hcz23_4
              try clear hcz24_0
              try clear hcz24_1
              try clear hcz24_2
              try clear hcz24_3
              try clear hcz24_4
              try clear hcz28_0
              try clear hcz28_1
              try clear hcz28_2
              try clear hcz28_3
              try clear hcz28_4
              try clear hcz29_0
              try clear hcz29_1
              try clear hcz29_2
              try clear hcz29_3
              try clear hcz29_4
              try clear hcz5_0
              try clear hcz5_1
              try clear hcz5_2
              try clear hcz5_3
              try clear hcz5_4
              try clear hcz6_0
              try clear hcz6_1
              try clear hcz6_2
              try clear hcz6_3
              try clear hcz6_4
              try clear hfz15_0
              try clear hfz15_1
              try clear hfz15_2
              try clear hfz15_3
              try clear hfz15_4
              try clear hfz19_0
              try clear hfz19_1
              try clear hfz19_2
              try clear hfz19_3
              try clear hfz19_4
              try clear hfz21_0
              try clear hfz21_1
              try clear hfz21_2
              try clear hfz21_3
              try clear hfz21_4
              try clear hfz23_0
              try clear hfz23_1
              try clear hfz23_2
              try clear hfz23_3
              try clear hfz23_4
              try clear hfz24_0
              try clear hfz24_1
              try clear hfz24_2
              try clear hfz24_3
              try clear hfz24_4
              try clear hfz28_0
              try clear hfz28_1
              try clear hfz28_2
              try clear hfz28_3
              try clear hfz28_4
              try clear hfz29_0
              try clear hfz29_1
              try clear hfz29_2
              try clear hfz29_3
              try clear hfz29_4
              try clear hfz5_0
              try clear hfz5_1
              try clear hfz5_2
              try clear hfz5_3
              try clear hfz5_4
              try clear hfz6_0
              try clear hfz6_1
              try clear hfz6_2
              try clear hfz6_3
              try clear hfz6_4
              try clear p2
              obtain ⟨kq, HA, HJ13, BK175, HB⟩ := hcut
              cases kq with
              | zero => exact absurd HA.out (by simp [backreachref02_Wrong.j2])
              | succ kj13 =>
                have H := HA.out
                clear HA
                simp only [backreachref02_Wrong.j2] at H
                replace H := Option.bind_eq_some_iff.mp H
                obtain ⟨t181, A300, H⟩ := H
                replace H : (if t181 = true then (some (-1)) else (if a0_4 = 0 then (some (-1)) else (some 4))) = some r := H
                have A30 := Aside0.mk A300
                clear A300
                by_cases c31 : t181 = true
                · subst c31
                  have H1 : (some (-1)) = some r := by rw [if_pos rfl] at H; exact H
                  clear H
                  have H := H1
                  clear H1
                  obtain rfl := Option.some.inj H
                  go_wp2_with (first | ((with_reducible refine gate_callee (f := 28) rfl ?_); refine goesL_ (some 51) rfl rfl Try.func28 (by kernel_rfl) rfl #[.string t176, .int .u8 105] rfl (by (try simp only [List.map_toArray, List.map_cons, List.map_nil]); first | done | rfl | (simp only [List.length_drop, List.length_take]; rfl)) ?_; (with_reducible refine (backreachref02_in.calls kj13 t176 105 true _ A30.out).mono ?_); rintro e w' ⟨rfl, ⟨nd, rfl⟩⟩; refine ⟨_, rfl, ?_⟩))
                  go_ret
                  exact ⟨by first | rfl | (simp [errW_none, errW_some] <;> rfl) | (simp [*, errW_none, errW_some] <;> rfl), by repeat (first | (with_reducible first | exact HB.out | apply below_alloc | apply pw_below_drewN | apply below_drew1 | refine below_set ?_ GE175.out) | exact HB.out)⟩
                · replace c31 := Bool.eq_false_iff.mpr c31
                  subst c31
                  have H1 : (if a0_4 = 0 then (some (-1)) else (some 4)) = some r := by rw [if_neg (show ¬ (false = true) by decide)] at H; exact H
                  clear H
                  have H := H1
                  clear H1
                  by_cases c32 : a0_4 = 0
                  · rw [if_pos c32] at H
                    have c32b0 : (a0_4 == 0) = true := beq_iff_eq.mpr c32
                    have c32b1 : (a0_4 != 0) = false := bne_eq_false_iff_eq.mpr c32
                    clear c32
                    obtain rfl := Option.some.inj H
                    go_wp2_with (first | ((with_reducible refine gate_callee (f := 28) rfl ?_); refine goesL_ (some 51) rfl rfl Try.func28 (by kernel_rfl) rfl #[.string t176, .int .u8 105] rfl (by (try simp only [List.map_toArray, List.map_cons, List.map_nil]); first | done | rfl | (simp only [List.length_drop, List.length_take]; rfl)) ?_; (with_reducible refine (backreachref02_in.calls kj13 t176 105 false _ A30.out).mono ?_); rintro e w' ⟨rfl, ⟨nd, rfl⟩⟩; refine ⟨_, rfl, ?_⟩; have hcz33_0 : wc.cell? ⟨gb175, 0, none⟩ = some (.int .i64 a0_0) := (blk_cell BK175.out 0).trans rfl; have hcz33_1 : wc.cell? ⟨gb175, 1, none⟩ = some (.int .i64 a0_1) := (blk_cell BK175.out 1).trans rfl; have hcz33_2 : wc.cell? ⟨gb175, 2, none⟩ = some (.int .i64 a0_2) := (blk_cell BK175.out 2).trans rfl; have hcz33_3 : wc.cell? ⟨gb175, 3, none⟩ = some (.int .i64 a0_3) := (blk_cell BK175.out 3).trans rfl; have hcz33_4 : wc.cell? ⟨gb175, 4, none⟩ = some (.int .u64 a0_4) := (blk_cell BK175.out 4).trans rfl; have hfz33_0 := blk_frozen BK175.out 0; have hfz33_1 := blk_frozen BK175.out 1; have hfz33_2 := blk_frozen BK175.out 2; have hfz33_3 := blk_frozen BK175.out 3; have hfz33_4 := blk_frozen BK175.out 4))
                    go_ret
                    exact ⟨by first | rfl | (simp [errW_none, errW_some] <;> rfl) | (simp [*, errW_none, errW_some] <;> rfl), by repeat (first | (with_reducible first | exact HB.out | apply below_alloc | apply pw_below_drewN | apply below_drew1 | refine below_set ?_ GE175.out) | exact HB.out)⟩
                  · rw [if_neg c32] at H
                    have c32b0 : (a0_4 == 0) = false := beq_eq_false_iff_ne.mpr c32
                    have c32b1 : (a0_4 != 0) = true := bne_iff_ne.mpr c32
                    obtain rfl := Option.some.inj H
                    go_wp2_with (first | ((with_reducible refine gate_callee (f := 28) rfl ?_); refine goesL_ (some 51) rfl rfl Try.func28 (by kernel_rfl) rfl #[.string t176, .int .u8 105] rfl (by (try simp only [List.map_toArray, List.map_cons, List.map_nil]); first | done | rfl | (simp only [List.length_drop, List.length_take]; rfl)) ?_; (with_reducible refine (backreachref02_in.calls kj13 t176 105 false _ A30.out).mono ?_); rintro e w' ⟨rfl, ⟨nd, rfl⟩⟩; refine ⟨_, rfl, ?_⟩; have hcz34_0 : wc.cell? ⟨gb175, 0, none⟩ = some (.int .i64 a0_0) := (blk_cell BK175.out 0).trans rfl; have hcz34_1 : wc.cell? ⟨gb175, 1, none⟩ = some (.int .i64 a0_1) := (blk_cell BK175.out 1).trans rfl; have hcz34_2 : wc.cell? ⟨gb175, 2, none⟩ = some (.int .i64 a0_2) := (blk_cell BK175.out 2).trans rfl; have hcz34_3 : wc.cell? ⟨gb175, 3, none⟩ = some (.int .i64 a0_3) := (blk_cell BK175.out 3).trans rfl; have hcz34_4 : wc.cell? ⟨gb175, 4, none⟩ = some (.int .u64 a0_4) := (blk_cell BK175.out 4).trans rfl; have hfz34_0 := blk_frozen BK175.out 0; have hfz34_1 := blk_frozen BK175.out 1; have hfz34_2 := blk_frozen BK175.out 2; have hfz34_3 := blk_frozen BK175.out 3; have hfz34_4 := blk_frozen BK175.out 4))
                    go_ret
                    exact ⟨by first | rfl | (simp [errW_none, errW_some] <;> rfl) | (simp [*, errW_none, errW_some] <;> rfl), by repeat (first | (with_reducible first | exact HB.out | apply below_alloc | apply pw_below_drewN | apply below_drew1 | refine below_set ?_ GE175.out) | exact HB.out)⟩
          · replace c12 := Bool.eq_false_iff.mpr c12
            subst c12
            have H1 : (some 2) = some r := by rw [if_neg (show ¬ (false = true) by decide)] at H; exact H
            clear H
            have H := H1
            clear H1
            obtain rfl := Option.some.inj H
            have hcz35_0 : wc.cell? ⟨gb175, 0, none⟩ = some (.int .i64 a0_0) := (blk_cell BK175.out 0).trans rfl
            have hcz35_1 : wc.cell? ⟨gb175, 1, none⟩ = some (.int .i64 a0_1) := (blk_cell BK175.out 1).trans rfl
            have hcz35_2 : wc.cell? ⟨gb175, 2, none⟩ = some (.int .i64 a0_2) := (blk_cell BK175.out 2).trans rfl
            have hcz35_3 : wc.cell? ⟨gb175, 3, none⟩ = some (.int .i64 a0_3) := (blk_cell BK175.out 3).trans rfl
            have hcz35_4 : wc.cell? ⟨gb175, 4, none⟩ = some (.int .u64 a0_4) := (blk_cell BK175.out 4).trans rfl
            have hfz35_0 := blk_frozen BK175.out 0
            have hfz35_1 := blk_frozen BK175.out 1
            have hfz35_2 := blk_frozen BK175.out 2
            have hfz35_3 := blk_frozen BK175.out 3
            have hfz35_4 := blk_frozen BK175.out 4
            go_wp2_with (first | ((with_reducible refine gate_callee (f := 26) rfl ?_); refine goesL_ (some 14) rfl rfl Try.func26 (by kernel_rfl) rfl #[.int .i64 a0_0] rfl (by (try simp only [List.map_toArray, List.map_cons, List.map_nil]); first | done | rfl | (simp only [List.length_drop, List.length_take]; rfl)) ?_; (with_reducible refine (backreachref02_Has.calls kj1 a0_0 t176 _ A8.out).mono ?_); rintro e w' ⟨rfl, ⟨nd, rfl⟩⟩; refine ⟨_, rfl, ?_⟩) | ((with_reducible refine gate_callee (f := 27) rfl ?_); refine goesL_ (some 18) rfl rfl Try.func27 (by kernel_rfl) rfl #[.string t176, .int .u8 97, .int .i64 a0_1] rfl (by (try simp only [List.map_toArray, List.map_cons, List.map_nil]); first | done | rfl | (simp only [List.length_drop, List.length_take]; rfl)) ?_; (with_reducible refine (backreachref02_register.calls kj1 t176 97 a0_1 true _ A9.out).mono ?_); rintro e w' ⟨rfl, ⟨nd, rfl⟩⟩; refine ⟨_, rfl, ?_⟩) | ((with_reducible refine gate_callee (f := 27) rfl ?_); refine goesL_ (some 23) rfl rfl Try.func27 (by kernel_rfl) rfl #[.string t176, .int .u8 98, .int .i64 a0_2] rfl (by (try simp only [List.map_toArray, List.map_cons, List.map_nil]); first | done | rfl | (simp only [List.length_drop, List.length_take]; rfl)) ?_; (with_reducible refine (backreachref02_register.calls kj1 t176 98 a0_2 false _ A11.out).mono ?_); rintro e w' ⟨rfl, ⟨nd, rfl⟩⟩; refine ⟨_, rfl, ?_⟩))
            go_ret
            exact ⟨by first | rfl | (simp [errW_none, errW_some] <;> rfl) | (simp [*, errW_none, errW_some] <;> rfl), by repeat (first | (with_reducible first | exact HB.out | apply below_alloc | apply pw_below_drewN | apply below_drew1 | refine below_set ?_ GE175.out) | exact HB.out)⟩
        · replace c10 := Bool.eq_false_iff.mpr c10
          subst c10
          have H1 : (some 1) = some r := by rw [if_neg (show ¬ (false = true) by decide)] at H; exact H
          clear H
          have H := H1
          clear H1
          obtain rfl := Option.some.inj H
          have hcz36_0 : wc.cell? ⟨gb175, 0, none⟩ = some (.int .i64 a0_0) := (blk_cell BK175.out 0).trans rfl
          have hcz36_1 : wc.cell? ⟨gb175, 1, none⟩ = some (.int .i64 a0_1) := (blk_cell BK175.out 1).trans rfl
          have hcz36_2 : wc.cell? ⟨gb175, 2, none⟩ = some (.int .i64 a0_2) := (blk_cell BK175.out 2).trans rfl
          have hcz36_3 : wc.cell? ⟨gb175, 3, none⟩ = some (.int .i64 a0_3) := (blk_cell BK175.out 3).trans rfl
          have hcz36_4 : wc.cell? ⟨gb175, 4, none⟩ = some (.int .u64 a0_4) := (blk_cell BK175.out 4).trans rfl
          have hfz36_0 := blk_frozen BK175.out 0
          have hfz36_1 := blk_frozen BK175.out 1
          have hfz36_2 := blk_frozen BK175.out 2
          have hfz36_3 := blk_frozen BK175.out 3
          have hfz36_4 := blk_frozen BK175.out 4
          go_wp2_with (first | ((with_reducible refine gate_callee (f := 26) rfl ?_); refine goesL_ (some 14) rfl rfl Try.func26 (by kernel_rfl) rfl #[.int .i64 a0_0] rfl (by (try simp only [List.map_toArray, List.map_cons, List.map_nil]); first | done | rfl | (simp only [List.length_drop, List.length_take]; rfl)) ?_; (with_reducible refine (backreachref02_Has.calls kj1 a0_0 t176 _ A8.out).mono ?_); rintro e w' ⟨rfl, ⟨nd, rfl⟩⟩; refine ⟨_, rfl, ?_⟩) | ((with_reducible refine gate_callee (f := 27) rfl ?_); refine goesL_ (some 18) rfl rfl Try.func27 (by kernel_rfl) rfl #[.string t176, .int .u8 97, .int .i64 a0_1] rfl (by (try simp only [List.map_toArray, List.map_cons, List.map_nil]); first | done | rfl | (simp only [List.length_drop, List.length_take]; rfl)) ?_; (with_reducible refine (backreachref02_register.calls kj1 t176 97 a0_1 false _ A9.out).mono ?_); rintro e w' ⟨rfl, ⟨nd, rfl⟩⟩; refine ⟨_, rfl, ?_⟩))
          go_ret
          exact ⟨by first | rfl | (simp [errW_none, errW_some] <;> rfl) | (simp [*, errW_none, errW_some] <;> rfl), by repeat (first | (with_reducible first | exact HB.out | apply below_alloc | apply pw_below_drewN | apply below_drew1 | refine below_set ?_ GE175.out) | exact HB.out)⟩

end Go.Proofs.Ytmgfmabmliphfaa.P
