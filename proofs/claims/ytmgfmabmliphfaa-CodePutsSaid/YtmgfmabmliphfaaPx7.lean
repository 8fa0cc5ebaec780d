/- What Go functions compute, and their walks: written by a program of this session (a turned copy of the kit's print) out of the translation. -/
import Derived.Test.YtmgfmabmliphfaaPx0
import Derived.Test.YtmgfmabmliphfaaPx1
import Derived.Test.YtmgfmabmliphfaaPx2
import Derived.Test.YtmgfmabmliphfaaPx5
import Derived.Test.YtmgfmabmliphfaaPx6
namespace Go.Proofs.Ytmgfmabmliphfaa.P
open Go.RowKit Go.Proofs.YtmgfmabmliphfaaW.PrintWords Go.Proofs.YtmgfmabmliphfaaW.PrintLast Go.Proofs.YtmgfmabmliphfaaW.PrintMore
attribute [local go_sem] max2_int min2_int max_two min_two max_three min_three max_four min_four   -- for this text's walks alone
set_option linter.unusedVariables false
set_option linter.unusedSimpArgs false

attribute [local go_sem high] eqA30
/-! ### code_wrong: function 21 -/
mutual
def code_wrong.j0 : Nat → Int → Bool → Int → Int → Int → Int → Int → Int → Int → Int → Int → Int → Option (Int)
  | 0, _, _, _, _, _, _, _, _, _, _, _, _ => none
  | k + 1, x3, x5, x118000, x118001, x118002, x118003, x118004, x128000, x128001, x128002, x128003, x128004 => if x118001 = x128001 then ((code_register.f x118001).bind fun t128 => (code_wrong.j1 k x3 x5 (!t128) x118000 x118001 x118002 x118003 x118004 x128000 x128001 x128002 x128003 x128004)) else (code_wrong.j1 k x3 x5 true x118000 x118001 x118002 x118003 x118004 x128000 x128001 x128002 x128003 x128004)
def code_wrong.j1 : Nat → Int → Bool → Bool → Int → Int → Int → Int → Int → Int → Int → Int → Int → Int → Option (Int)
  | 0, _, _, _, _, _, _, _, _, _, _, _, _, _ => none
  | k + 1, x3, x5, x33, x118000, x118001, x118002, x118003, x118004, x128000, x128001, x128002, x128003, x128004 => if x33 = true then (some 1) else (if x118002 = x128002 then ((code_register.f x118002).bind fun t129 => (code_wrong.j2 k x3 x5 (!t129) x118000 x118001 x118002 x118003 x118004 x128000 x128001 x128002 x128003 x128004)) else (code_wrong.j2 k x3 x5 true x118000 x118001 x118002 x118003 x118004 x128000 x128001 x128002 x128003 x128004))
def code_wrong.j2 : Nat → Int → Bool → Bool → Int → Int → Int → Int → Int → Int → Int → Int → Int → Int → Option (Int)
  | 0, _, _, _, _, _, _, _, _, _, _, _, _, _ => none
  | k + 1, x3, x5, x45, x118000, x118001, x118002, x118003, x118004, x128000, x128001, x128002, x128003, x128004 => if x45 = true then (some 2) else (if x118003 = x128003 then (if (Go.bits .and .i64 x3 8) = 0 then ((code_register.f x118003).bind fun t130 => (code_wrong.j3 k (!t130) x118000 x118001 x118002 x118003 x118004 x128000 x128001 x128002 x128003 x128004)) else (if x5 = true then (code_wrong.j3 k false x118000 x118001 x118002 x118003 x118004 x128000 x128001 x128002 x128003 x128004) else (code_wrong.j3 k true x118000 x118001 x118002 x118003 x118004 x128000 x128001 x128002 x128003 x128004))) else (code_wrong.j3 k true x118000 x118001 x118002 x118003 x118004 x128000 x128001 x128002 x128003 x128004))
def code_wrong.j3 : Nat → Bool → Int → Int → Int → Int → Int → Int → Int → Int → Int → Int → Option (Int)
  | 0, _, _, _, _, _, _, _, _, _, _, _ => none
  | k + 1, x57, x118000, x118001, x118002, x118003, x118004, x128000, x128001, x128002, x128003, x128004 => if x57 = true then (some 3) else (if (!(x118000 == x128000) || (!(x118001 == x128001) || (!(x118002 == x128002) || (!(x118003 == x128003) || (!(x118004 == x128004)))))) = true then (some 4) else (some 0))
end
def code_wrong.f (k : Nat) (a0_0 : Int) (a0_1 : Int) (a0_2 : Int) (a0_3 : Int) (a0_4 : Int) : Option (Int) := (code_forms.f).bind fun t118 => (if 0 ≤ a0_0 then (if a0_0 < (t118.length : Int) then ((code_kept.f k a0_0 a0_1 a0_2 a0_3 a0_4 ((rd_T47 t118 a0_0).f1)).bind fun bt122 => (if a0_3 = 1 then (code_wrong.j0 k ((rd_T47 t118 a0_0).f1) true a0_0 a0_1 a0_2 a0_3 a0_4 bt122.1 bt122.2.1 bt122.2.2.1 bt122.2.2.2.1 bt122.2.2.2.2) else (if a0_3 = 2 then (code_wrong.j0 k ((rd_T47 t118 a0_0).f1) true a0_0 a0_1 a0_2 a0_3 a0_4 bt122.1 bt122.2.1 bt122.2.2.1 bt122.2.2.2.1 bt122.2.2.2.2) else (if a0_3 = 4 then (code_wrong.j0 k ((rd_T47 t118 a0_0).f1) true a0_0 a0_1 a0_2 a0_3 a0_4 bt122.1 bt122.2.1 bt122.2.2.1 bt122.2.2.2.1 bt122.2.2.2.2) else (code_wrong.j0 k ((rd_T47 t118 a0_0).f1) (a0_3 == 8) a0_0 a0_1 a0_2 a0_3 a0_4 bt122.1 bt122.2.1 bt122.2.2.1 bt122.2.2.2.1 bt122.2.2.2.2))))) else (none)) else (none))
theorem code_wrong.mono_l : ∀ k, (∀ y0 y1 y2 y3 y4 y5 y6 y7 y8 y9 y10 y11, LeO (code_wrong.j0 k y0 y1 y2 y3 y4 y5 y6 y7 y8 y9 y10 y11) (code_wrong.j0 (k + 1) y0 y1 y2 y3 y4 y5 y6 y7 y8 y9 y10 y11)) ∧ (∀ y0 y1 y2 y3 y4 y5 y6 y7 y8 y9 y10 y11 y12, LeO (code_wrong.j1 k y0 y1 y2 y3 y4 y5 y6 y7 y8 y9 y10 y11 y12) (code_wrong.j1 (k + 1) y0 y1 y2 y3 y4 y5 y6 y7 y8 y9 y10 y11 y12)) ∧ (∀ y0 y1 y2 y3 y4 y5 y6 y7 y8 y9 y10 y11 y12, LeO (code_wrong.j2 k y0 y1 y2 y3 y4 y5 y6 y7 y8 y9 y10 y11 y12) (code_wrong.j2 (k + 1) y0 y1 y2 y3 y4 y5 y6 y7 y8 y9 y10 y11 y12)) ∧ (∀ y0 y1 y2 y3 y4 y5 y6 y7 y8 y9 y10, LeO (code_wrong.j3 k y0 y1 y2 y3 y4 y5 y6 y7 y8 y9 y10) (code_wrong.j3 (k + 1) y0 y1 y2 y3 y4 y5 y6 y7 y8 y9 y10))
  | 0 => ⟨fun _ _ _ _ _ _ _ _ _ _ _ _ r h => by simp [code_wrong.j0] at h, fun _ _ _ _ _ _ _ _ _ _ _ _ _ r h => by simp [code_wrong.j1] at h, fun _ _ _ _ _ _ _ _ _ _ _ _ _ r h => by simp [code_wrong.j2] at h, fun _ _ _ _ _ _ _ _ _ _ _ r h => by simp [code_wrong.j3] at h⟩
  | k + 1 => by
    obtain ⟨ih0, ih1, ih2, ih3⟩ := code_wrong.mono_l k
    refine ⟨?_, ?_, ?_, ?_⟩
    · intro y0 y1 y2 y3 y4 y5 y6 y7 y8 y9 y10 y11
      unfold code_wrong.j0
      repeat' first
      | (with_reducible exact ih0 _ _ _ _ _ _ _ _ _ _ _ _)
      | (with_reducible exact ih1 _ _ _ _ _ _ _ _ _ _ _ _ _)
      | (with_reducible exact ih2 _ _ _ _ _ _ _ _ _ _ _ _ _)
      | (with_reducible exact ih3 _ _ _ _ _ _ _ _ _ _ _)
      | (with_reducible exact code_kept.mono _ _ _ _ _ _ _)
      | (with_reducible exact LeO.refl _)
      | (with_reducible exact LeO.none _)
      | (with_reducible refine LeO.ite ?_ ?_)
      | (with_reducible refine LeO.bind ?_ (fun _ => ?_))
      | exact ih0 _ _ _ _ _ _ _ _ _ _ _ _
      | exact ih1 _ _ _ _ _ _ _ _ _ _ _ _ _
      | exact ih2 _ _ _ _ _ _ _ _ _ _ _ _ _
      | exact ih3 _ _ _ _ _ _ _ _ _ _ _
      | exact code_kept.mono _ _ _ _ _ _ _
      | exact LeO.none _
      | refine LeO.ite ?_ ?_
      | refine LeO.bind ?_ (fun _ => ?_)
    · intro y0 y1 y2 y3 y4 y5 y6 y7 y8 y9 y10 y11 y12
      unfold code_wrong.j1
      repeat' first
      | (with_reducible exact ih0 _ _ _ _ _ _ _ _ _ _ _ _)
      | (with_reducible exact ih1 _ _ _ _ _ _ _ _ _ _ _ _ _)
      | (with_reducible exact ih2 _ _ _ _ _ _ _ _ _ _ _ _ _)
      | (with_reducible exact ih3 _ _ _ _ _ _ _ _ _ _ _)
      | (with_reducible exact code_kept.mono _ _ _ _ _ _ _)
      | (with_reducible exact LeO.refl _)
      | (with_reducible exact LeO.none _)
      | (with_reducible refine LeO.ite ?_ ?_)
      | (with_reducible refine LeO.bind ?_ (fun _ => ?_))
      | exact ih0 _ _ _ _ _ _ _ _ _ _ _ _
      | exact ih1 _ _ _ _ _ _ _ _ _ _ _ _ _
      | exact ih2 _ _ _ _ _ _ _ _ _ _ _ _ _
      | exact ih3 _ _ _ _ _ _ _ _ _ _ _
      | exact code_kept.mono _ _ _ _ _ _ _
      | exact LeO.none _
      | refine LeO.ite ?_ ?_
      | refine LeO.bind ?_ (fun _ => ?_)
    · intro y0 y1 y2 y3 y4 y5 y6 y7 y8 y9 y10 y11 y12
      unfold code_wrong.j2
      repeat' first
      | (with_reducible exact ih0 _ _ _ _ _ _ _ _ _ _ _ _)
      | (with_reducible exact ih1 _ _ _ _ _ _ _ _ _ _ _ _ _)
      | (with_reducible exact ih2 _ _ _ _ _ _ _ _ _ _ _ _ _)
      | (with_reducible exact ih3 _ _ _ _ _ _ _ _ _ _ _)
      | (with_reducible exact code_kept.mono _ _ _ _ _ _ _)
      | (with_reducible exact LeO.refl _)
      | (with_reducible exact LeO.none _)
      | (with_reducible refine LeO.ite ?_ ?_)
      | (with_reducible refine LeO.bind ?_ (fun _ => ?_))
      | exact ih0 _ _ _ _ _ _ _ _ _ _ _ _
      | exact ih1 _ _ _ _ _ _ _ _ _ _ _ _ _
      | exact ih2 _ _ _ _ _ _ _ _ _ _ _ _ _
      | exact ih3 _ _ _ _ _ _ _ _ _ _ _
      | exact code_kept.mono _ _ _ _ _ _ _
      | exact LeO.none _
      | refine LeO.ite ?_ ?_
      | refine LeO.bind ?_ (fun _ => ?_)
    · intro y0 y1 y2 y3 y4 y5 y6 y7 y8 y9 y10
      unfold code_wrong.j3
      repeat' first
      | (with_reducible exact ih0 _ _ _ _ _ _ _ _ _ _ _ _)
      | (with_reducible exact ih1 _ _ _ _ _ _ _ _ _ _ _ _ _)
      | (with_reducible exact ih2 _ _ _ _ _ _ _ _ _ _ _ _ _)
      | (with_reducible exact ih3 _ _ _ _ _ _ _ _ _ _ _)
      | (with_reducible exact code_kept.mono _ _ _ _ _ _ _)
      | (with_reducible exact LeO.refl _)
      | (with_reducible exact LeO.none _)
      | (with_reducible refine LeO.ite ?_ ?_)
      | (with_reducible refine LeO.bind ?_ (fun _ => ?_))
      | exact ih0 _ _ _ _ _ _ _ _ _ _ _ _
      | exact ih1 _ _ _ _ _ _ _ _ _ _ _ _ _
      | exact ih2 _ _ _ _ _ _ _ _ _ _ _ _ _
      | exact ih3 _ _ _ _ _ _ _ _ _ _ _
      | exact code_kept.mono _ _ _ _ _ _ _
      | exact LeO.none _
      | refine LeO.ite ?_ ?_
      | refine LeO.bind ?_ (fun _ => ?_)
theorem code_wrong.mono : ∀ a0 a1 a2 a3 a4 k, LeO (code_wrong.f k a0 a1 a2 a3 a4) (code_wrong.f (k + 1) a0 a1 a2 a3 a4) := by
  intro a0 a1 a2 a3 a4 k
  obtain ⟨ih0, ih1, ih2, ih3⟩ := code_wrong.mono_l k
  unfold code_wrong.f
  repeat' first
      | (with_reducible exact ih0 _ _ _ _ _ _ _ _ _ _ _ _)
      | (with_reducible exact ih1 _ _ _ _ _ _ _ _ _ _ _ _ _)
      | (with_reducible exact ih2 _ _ _ _ _ _ _ _ _ _ _ _ _)
      | (with_reducible exact ih3 _ _ _ _ _ _ _ _ _ _ _)
      | (with_reducible exact code_kept.mono _ _ _ _ _ _ _)
      | (with_reducible exact LeO.refl _)
      | (with_reducible exact LeO.none _)
      | (with_reducible refine LeO.ite ?_ ?_)
      | (with_reducible refine LeO.bind ?_ (fun _ => ?_))
      | exact ih0 _ _ _ _ _ _ _ _ _ _ _ _
      | exact ih1 _ _ _ _ _ _ _ _ _ _ _ _ _
      | exact ih2 _ _ _ _ _ _ _ _ _ _ _ _ _
      | exact ih3 _ _ _ _ _ _ _ _ _ _ _
      | exact code_kept.mono _ _ _ _ _ _ _
      | exact LeO.none _
      | refine LeO.ite ?_ ?_
      | refine LeO.bind ?_ (fun _ => ?_)
set_option maxHeartbeats 8000000 in
set_option maxRecDepth 100000 in
theorem code_wrong.calls (k : Nat) (a0_0 : Int) (a0_1 : Int) (a0_2 : Int) (a0_3 : Int) (a0_4 : Int) (r : Int) (w : World) (h : code_wrong.f k a0_0 a0_1 a0_2 a0_3 a0_4 = some r) :
    Calls Try.prog 21 #[.agg #[.int .i64 a0_0, .int .i64 a0_1, .int .i64 a0_2, .int .i64 a0_3, .int .u64 a0_4]] w fun e w' => e = .returned (.int .i64 r) ∧ Below w.heap.size w w' := by
  have hu30 := Try.underlying30
  have HB := Aside0.mk (Below.refl w.heap.size w)
  have H : ((code_forms.f).bind fun t118 => (if 0 ≤ a0_0 then (if a0_0 < (t118.length : Int) then ((code_kept.f k a0_0 a0_1 a0_2 a0_3 a0_4 ((rd_T47 t118 a0_0).f1)).bind fun bt122 => (if a0_3 = 1 then (code_wrong.j0 k ((rd_T47 t118 a0_0).f1) true a0_0 a0_1 a0_2 a0_3 a0_4 bt122.1 bt122.2.1 bt122.2.2.1 bt122.2.2.2.1 bt122.2.2.2.2) else (if a0_3 = 2 then (code_wrong.j0 k ((rd_T47 t118 a0_0).f1) true a0_0 a0_1 a0_2 a0_3 a0_4 bt122.1 bt122.2.1 bt122.2.2.1 bt122.2.2.2.1 bt122.2.2.2.2) else (if a0_3 = 4 then (code_wrong.j0 k ((rd_T47 t118 a0_0).f1) true a0_0 a0_1 a0_2 a0_3 a0_4 bt122.1 bt122.2.1 bt122.2.2.1 bt122.2.2.2.1 bt122.2.2.2.2) else (code_wrong.j0 k ((rd_T47 t118 a0_0).f1) (a0_3 == 8) a0_0 a0_1 a0_2 a0_3 a0_4 bt122.1 bt122.2.1 bt122.2.2.1 bt122.2.2.2.1 bt122.2.2.2.2))))) else (none)) else (none))) = some r := h
  clear h
  replace H := Option.bind_eq_some_iff.mp H
  obtain ⟨t118, A20, H⟩ := H
  replace H : (if 0 ≤ a0_0 then (if a0_0 < (t118.length : Int) then ((code_kept.f k a0_0 a0_1 a0_2 a0_3 a0_4 ((rd_T47 t118 a0_0).f1)).bind fun bt122 => (if a0_3 = 1 then (code_wrong.j0 k ((rd_T47 t118 a0_0).f1) true a0_0 a0_1 a0_2 a0_3 a0_4 bt122.1 bt122.2.1 bt122.2.2.1 bt122.2.2.2.1 bt122.2.2.2.2) else (if a0_3 = 2 then (code_wrong.j0 k ((rd_T47 t118 a0_0).f1) true a0_0 a0_1 a0_2 a0_3 a0_4 bt122.1 bt122.2.1 bt122.2.2.1 bt122.2.2.2.1 bt122.2.2.2.2) else (if a0_3 = 4 then (code_wrong.j0 k ((rd_T47 t118 a0_0).f1) true a0_0 a0_1 a0_2 a0_3 a0_4 bt122.1 bt122.2.1 bt122.2.2.1 bt122.2.2.2.1 bt122.2.2.2.2) else (code_wrong.j0 k ((rd_T47 t118 a0_0).f1) (a0_3 == 8) a0_0 a0_1 a0_2 a0_3 a0_4 bt122.1 bt122.2.1 bt122.2.2.1 bt122.2.2.2.1 bt122.2.2.2.2))))) else (none)) else (none)) = some r := H
  have A2 := Aside0.mk A20
  clear A20
  by_cases c3 : 0 ≤ a0_0
  · rw [if_pos c3] at H
    have c3b0 : decide (0 ≤ a0_0) = true := decide_eq_true c3
    clear c3
    by_cases c4 : a0_0 < (t118.length : Int)
    · rw [if_pos c4] at H
      have c4b0 : decide (a0_0 < (t118.length : Int)) = true := decide_eq_true c4
      clear c4
      replace H := Option.bind_eq_some_iff.mp H
      obtain ⟨⟨t122, t123, t124, t125, t126⟩, A50, H⟩ := H
      replace H : (if a0_3 = 1 then (code_wrong.j0 k ((rd_T47 t118 a0_0).f1) true a0_0 a0_1 a0_2 a0_3 a0_4 t122 t123 t124 t125 t126) else (if a0_3 = 2 then (code_wrong.j0 k ((rd_T47 t118 a0_0).f1) true a0_0 a0_1 a0_2 a0_3 a0_4 t122 t123 t124 t125 t126) else (if a0_3 = 4 then (code_wrong.j0 k ((rd_T47 t118 a0_0).f1) true a0_0 a0_1 a0_2 a0_3 a0_4 t122 t123 t124 t125 t126) else (code_wrong.j0 k ((rd_T47 t118 a0_0).f1) (a0_3 == 8) a0_0 a0_1 a0_2 a0_3 a0_4 t122 t123 t124 t125 t126)))) = some r := H
      have A5 := Aside0.mk A50
      clear A50
      have HC6 := Aside0.mk H
      clear H
      go_enter Try.func21, Try.ntmps21
      try go_wp2_with (first | ((with_reducible refine gate_dst (N := 1) rfl ?_); refine box_event ?hg (N := 1) ?hd (cs := #[.int .i64 a0_0, .int .i64 a0_1, .int .i64 a0_2, .int .i64 a0_3, .int .u64 a0_4]) (t := 30) ?hr ?_; (case hd => rfl); (case hg => rfl); (case hr => first | (go_simp; done) | (go_simp; rfl)); intro gb117 hg w7 hbox hb; have n0_ := Aside0.mk (below_step (by repeat (first | (with_reducible first | exact HB.out | apply below_alloc | apply pw_below_drewN | apply below_drew1) | exact HB.out)) hb); have n1_ := Aside0.mk (hbox); have n2_ := Aside0.mk ((by rw [hg]; exact (below_size (by repeat (first | (with_reducible first | exact HB.out | apply below_alloc | apply pw_below_drewN | apply below_drew1) | exact HB.out))) : w.heap.size ≤ gb117)); have n3_ := Aside0.mk ((by rw [hg]; exact (below_size (by repeat (first | (with_reducible first | exact HB.out | apply below_alloc | apply pw_below_drewN | apply below_drew1) | exact HB.out))) : w.heap.size ≤ gb117)); clear HB; have HB := n0_; have BK117 := n1_; have GW117 := n2_; have GE117 := n3_; clear n0_ n1_ n2_ n3_; clear hb hbox hg))
      have n0_ := Aside0.mk (blk_drew BK117.out)
      have n1_ := Aside0.mk (below_drew1 HB.out)
      clear BK117
      clear HB
      have BK117 := n0_
      have HB := n1_
      clear n0_ n1_
      refine start_ (n := 7) (S := fun w' => w'.cell? ⟨gb117, 0, none⟩ = some (.int .i64 a0_0) ∧ w'.cell? ⟨gb117, 1, none⟩ = some (.int .i64 a0_1) ∧ w'.cell? ⟨gb117, 2, none⟩ = some (.int .i64 a0_2) ∧ w'.cell? ⟨gb117, 3, none⟩ = some (.int .i64 a0_3) ∧ w'.cell? ⟨gb117, 4, none⟩ = some (.int .u64 a0_4)) (ds := []) #[false, false, false, false, false, false, false] (by kernel_rfl) rfl rfl ⟨(blk_cell BK117.out 0).trans rfl, (blk_cell BK117.out 1).trans rfl, (blk_cell BK117.out 2).trans rfl, (blk_cell BK117.out 3).trans rfl, (blk_cell BK117.out 4).trans rfl⟩ (fun hHeld => ?_)
      generalize w7.drew = w8 at BK117 HB hHeld ⊢
      refine pure_ (i := 1) (N := some 7) (v := ?_) (a' := ?_) #[false, true, false, false, false, false, false] rfl rfl (by kernel_rfl) (fun _ _ _ h => h) (Or.inl ⟨by rfl, ?_⟩) ?_ ?_
      rotate_left
      · intro w'
        go_simp
        with_reducible rfl
      rotate_left
      · simp only [Act.put, List.setIfInBounds_toArray, List.set_cons_zero, List.set_cons_succ, i64_w, i32_w]
        rfl
      refine take_ (i := 2) (N := some 8) (v := ?_) (a' := ?_) #[false, true, true, false, false, false, false] rfl rfl (by kernel_rfl) (fun _ _ _ h => h) (Or.inl ⟨by rfl, ?_⟩) hHeld ?_ ?_
      rotate_left
      · rintro w' ⟨s0, s1, s2, s3, s4⟩
        go_simp
        with_reducible rfl
      rotate_left
      · simp only [Act.put, List.setIfInBounds_toArray, List.set_cons_zero, List.set_cons_succ, i64_w, i32_w]
        rfl
      refine one_ (i := 0) (N := some 6) #[true, true, true, false, false, false, false] rfl rfl (by kernel_rfl) (by decide) (fun K hK => ?_)
      refine goes_ Try.func18 (by kernel_rfl) rfl #[] (by rfl) rfl rfl (by (try simp only [List.map_toArray, List.map_cons, List.map_nil]); first | done | rfl | (simp only [List.length_drop, List.length_take]; rfl)) ?_
      with_reducible refine (code_forms.calls  t118 _ A2.out).mono ?_
      rintro e w9 ⟨v119, rfl, ho0, hb⟩
      refine ⟨_, rfl, ?_⟩
      have n0_ := Aside0.mk (Kd.R_lower ho0 (below_size (by repeat (first | (with_reducible first | exact HB.out | apply below_alloc | apply pw_below_drewN | apply below_drew1 | refine below_set ?_ GE117.out) | exact HB.out))))
      have n1_ := Aside0.mk (blk_below (g := gb117) (o := .cells #[.int .i64 a0_0, .int .i64 a0_1, .int .i64 a0_2, .int .i64 a0_3, .int .u64 a0_4] 30 (0, 0)) (by (with_reducible repeat (first | refine blk_drewN ?_ _ | refine blk_drew ?_ | refine blk_alloc ?_ _)); exact BK117.out) hb)
      have n2_ := Aside0.mk (below_step (by repeat (first | (with_reducible first | exact HB.out | apply below_alloc | apply pw_below_drewN | apply below_drew1 | refine below_set ?_ GE117.out) | exact HB.out)) hb)
      clear BK117
      clear HB
      have HO120 := n0_
      have BK117 := n1_
      have HB := n2_
      clear n0_ n1_ n2_
      (try clear hb)
      (try clear hb2)
      (try clear hk)
      (try clear hi)
      (try clear ho0)
      obtain ⟨Ao10, co10, eo10⟩ := Kd.R_slice HO120.out
      (first | subst eo10 | (injection eo10 with f1_ f2_ f3_; have f4_ := f1_.symm; have f5_ := f3_.symm; clear f1_ f2_ f3_; subst f4_; subst f5_))
      have p121 : 0 ≤ (a0_0 : Int) := of_decide_eq_true (by first | (with_reducible assumption) | assumption)
      have q121 : a0_0 < (t118.length : Int) := of_decide_eq_true (by first | (with_reducible assumption) | assumption)
      obtain ⟨ad121, e121, hx121_0, hx121_1⟩ := at_T47 (Kd.R_reads' HO120.out).2.2 a0_0 p121 q121
      cases e121
      replace p121 := eq_true p121
      replace q121 := eq_true q121
      refine hK.out _ _ ⟨(blk_cell BK117.out 0).trans rfl, (blk_cell BK117.out 1).trans rfl, (blk_cell BK117.out 2).trans rfl, (blk_cell BK117.out 3).trans rfl, (blk_cell BK117.out 4).trans rfl⟩ (fun hHeld => ?_)
      clear hK K
      refine norm_ (a' := ?_) ?_ ?_
      rotate_left
      · show Act.put _ (some 6) _ = _
        simp only [Act.put, List.setIfInBounds_toArray, List.set_cons_zero, List.set_cons_succ, i64_w, i32_w]
        rfl
      refine pure_ (i := 3) (N := some 9) (v := ?_) (a' := ?_) #[true, true, true, true, false, false, false] rfl rfl (by kernel_rfl) (fun _ _ _ h => h) (Or.inl ⟨by rfl, ?_⟩) ?_ ?_
      rotate_left
      · intro w'
        go_simp
        with_reducible rfl
      rotate_left
      · simp only [Act.put, List.setIfInBounds_toArray, List.set_cons_zero, List.set_cons_succ, i64_w, i32_w]
        rfl
      refine pure_ (i := 4) (N := some 10) (v := ?_) (a' := ?_) #[true, true, true, true, true, false, false] rfl rfl (by kernel_rfl) (fun _ _ _ h => h) (Or.inl ⟨by rfl, ?_⟩) ?_ ?_
      rotate_left
      · intro w'
        go_simp
        with_reducible rfl
      rotate_left
      · simp only [Act.put, List.setIfInBounds_toArray, List.set_cons_zero, List.set_cons_succ, i64_w, i32_w]
        rfl
      refine one_ (i := 5) (N := some 11) #[true, true, true, true, true, true, false] rfl rfl (by kernel_rfl) (by decide) (fun K hK => ?_)
      refine value_ (w1 := ?_) (v := ?_) (by rfl) rfl ?_ ?_
      rotate_left 2
      · go_simp
        constructor
        · rfl
        · rfl
      refine hK.out _ _ ⟨hHeld.1, hHeld.2.1, hHeld.2.2.1, hHeld.2.2.2.1, hHeld.2.2.2.2⟩ (fun hHeld => ?_)
      clear hK K
      refine norm_ (a' := ?_) ?_ ?_
      rotate_left
      · show Act.put _ (some 11) _ = _
        simp only [Act.put, List.setIfInBounds_toArray, List.set_cons_zero, List.set_cons_succ, i64_w, i32_w]
        rfl
      refine pure_ (i := 6) (N := some 3) (v := ?_) (a' := ?_) #[true, true, true, true, true, true, true] rfl rfl (by kernel_rfl) (fun _ _ _ h => h) (Or.inl ⟨by rfl, ?_⟩) ?_ ?_
      rotate_left
      · intro w'
        go_simp
        with_reducible rfl
      rotate_left
      · simp only [Act.put, List.setIfInBounds_toArray, List.set_cons_zero, List.set_cons_succ, i64_w, i32_w]
        rfl
      refine done_ (by kernel_rfl) ?_
      have hcz11_0 : w9.cell? ⟨gb117, 0, none⟩ = some (.int .i64 a0_0) := (blk_cell BK117.out 0).trans rfl
      have hcz11_1 : w9.cell? ⟨gb117, 1, none⟩ = some (.int .i64 a0_1) := (blk_cell BK117.out 1).trans rfl
      have hcz11_2 : w9.cell? ⟨gb117, 2, none⟩ = some (.int .i64 a0_2) := (blk_cell BK117.out 2).trans rfl
      have hcz11_3 : w9.cell? ⟨gb117, 3, none⟩ = some (.int .i64 a0_3) := (blk_cell BK117.out 3).trans rfl
      have hcz11_4 : w9.cell? ⟨gb117, 4, none⟩ = some (.int .u64 a0_4) := (blk_cell BK117.out 4).trans rfl
      have hfz11_0 := blk_frozen BK117.out 0
      have hfz11_1 := blk_frozen BK117.out 1
      have hfz11_2 := blk_frozen BK117.out 2
      have hfz11_3 := blk_frozen BK117.out 3
      have hfz11_4 := blk_frozen BK117.out 4
      go_upto_region 3 with (first | ((with_reducible refine gate_callee (f := 24) rfl ?_); refine goesL_ (some 14) rfl rfl Try.func24 (by kernel_rfl) rfl #[.agg #[.int .i64 a0_0, .int .i64 a0_1, .int .i64 a0_2, .int .i64 a0_3, .int .u64 a0_4], .int .i64 ((rd_T47 t118 a0_0).f1)] rfl (by (try simp only [List.map_toArray, List.map_cons, List.map_nil]); first | done | rfl | (simp only [List.length_drop, List.length_take]; rfl)) ?_; (with_reducible refine (code_kept.calls k a0_0 a0_1 a0_2 a0_3 a0_4 ((rd_T47 t118 a0_0).f1) t122 t123 t124 t125 t126 _ A5.out).mono ?_); rintro e w12 ⟨rfl, hb⟩; refine ⟨_, rfl, ?_⟩; have n0_ := Aside0.mk (Kd.R_below (by (with_reducible repeat (first | apply Kd.R_alloc | apply Kd.R_drewN | apply Kd.R_drew)); exact HO120.out) hb); have n1_ := Aside0.mk (blk_below (g := gb117) (o := .cells #[.int .i64 a0_0, .int .i64 a0_1, .int .i64 a0_2, .int .i64 a0_3, .int .u64 a0_4] 30 (0, 0)) (by (with_reducible repeat (first | refine blk_drewN ?_ _ | refine blk_drew ?_ | refine blk_alloc ?_ _)); exact BK117.out) hb); have n2_ := Aside0.mk (below_step (by repeat (first | (with_reducible first | exact HB.out | apply below_alloc | apply pw_below_drewN | apply below_drew1 | refine below_set ?_ GE117.out) | exact HB.out)) hb); clear HO120; clear BK117; clear HB; have HO120 := n0_; have BK117 := n1_; have HB := n2_; clear n0_ n1_ n2_; (try clear hb); (try clear hb2); (try clear hk); (try clear hi)) | ((with_reducible refine gate_dst (N := 4) rfl ?_); refine box_event ?hg (N := 4) ?hd (cs := #[.int .i64 0, .int .i64 0, .int .i64 0, .int .i64 0, .int .u64 0]) (t := 30) ?hr ?_; (case hd => rfl); (case hg => rfl); (case hr => first | (go_simp; done) | (go_simp; rfl)); intro gb127 hg w13 hbox hb; have n0_ := Aside0.mk (Kd.R_below (by (with_reducible repeat (first | apply Kd.R_alloc | apply Kd.R_drewN | apply Kd.R_drew)); exact HO120.out) hb); have n1_ := Aside0.mk (blk_below (g := gb117) (o := .cells #[.int .i64 a0_0, .int .i64 a0_1, .int .i64 a0_2, .int .i64 a0_3, .int .u64 a0_4] 30 (0, 0)) (by (with_reducible repeat (first | refine blk_drewN ?_ _ | refine blk_drew ?_ | refine blk_alloc ?_ _)); exact BK117.out) hb); have n2_ := Aside0.mk (below_step (by repeat (first | (with_reducible first | exact HB.out | apply below_alloc | apply pw_below_drewN | apply below_drew1 | refine below_set ?_ GE117.out) | exact HB.out)) hb); have n3_ := Aside0.mk (hbox); have n4_ := Aside0.mk ((by rw [hg]; exact (below_size (by repeat (first | (with_reducible first | exact HB.out | apply below_alloc | apply pw_below_drewN | apply below_drew1 | refine below_set ?_ GE117.out) | exact HB.out))) : w.heap.size ≤ gb127)); have n5_ := Aside0.mk ((by rw [hg]; exact (below_size (by repeat (first | (with_reducible first | exact HB.out | apply below_alloc | apply pw_below_drewN | apply below_drew1 | refine below_set ?_ GE117.out) | exact HB.out))) : w.heap.size ≤ gb127)); have n6_ := Aside0.mk ((by rw [hg]; exact Nat.ne_of_lt (blk_lt (g := gb117) (o := .cells #[.int .i64 a0_0, .int .i64 a0_1, .int .i64 a0_2, .int .i64 a0_3, .int .u64 a0_4] 30 (0, 0)) (by (with_reducible repeat (first | refine blk_drewN ?_ _ | refine blk_drew ?_ | refine blk_alloc ?_ _)); exact BK117.out)) : gb117 ≠ gb127)); have n7_ := Aside0.mk ((by rw [hg]; exact Nat.ne_of_gt (blk_lt (g := gb117) (o := .cells #[.int .i64 a0_0, .int .i64 a0_1, .int .i64 a0_2, .int .i64 a0_3, .int .u64 a0_4] 30 (0, 0)) (by (with_reducible repeat (first | refine blk_drewN ?_ _ | refine blk_drew ?_ | refine blk_alloc ?_ _)); exact BK117.out)) : gb127 ≠ gb117)); clear HO120; clear BK117; clear HB; have HO120 := n0_; have BK117 := n1_; have HB := n2_; have BK127 := n3_; have GW127 := n4_; have GE127 := n5_; have NB117_127 := n6_; have NB127_117 := n7_; clear n0_ n1_ n2_ n3_ n4_ n5_ n6_ n7_; clear hb hbox hg; have hnb14 := NB127_117.out; have hnc14 := NB117_127.out; have hcz15_0 : w13.cell? ⟨gb127, 0, none⟩ = some (.int .i64 0) := (blk_cell BK127.out 0).trans rfl; have hcz15_1 : w13.cell? ⟨gb127, 1, none⟩ = some (.int .i64 0) := (blk_cell BK127.out 1).trans rfl; have hcz15_2 : w13.cell? ⟨gb127, 2, none⟩ = some (.int .i64 0) := (blk_cell BK127.out 2).trans rfl; have hcz15_3 : w13.cell? ⟨gb127, 3, none⟩ = some (.int .i64 0) := (blk_cell BK127.out 3).trans rfl; have hcz15_4 : w13.cell? ⟨gb127, 4, none⟩ = some (.int .u64 0) := (blk_cell BK127.out 4).trans rfl; have hfz15_0 := blk_frozen BK127.out 0; have hfz15_1 := blk_frozen BK127.out 1; have hfz15_2 := blk_frozen BK127.out 2; have hfz15_3 := blk_frozen BK127.out 3; have hfz15_4 := blk_frozen BK127.out 4))
      (try simp only [Act.put, List.setIfInBounds_toArray, List.set_cons_zero, List.set_cons_succ])
      go_cut [5] (fun v5 wc => ∃ (kq : Nat) (x5_5 : Bool), v5 = .bool x5_5 ∧ Aside0 (code_wrong.j0 kq ((rd_T47 t118 a0_0).f1) x5_5 a0_0 a0_1 a0_2 a0_3 a0_4 t122 t123 t124 t125 t126 = some r) ∧ Aside0 (kq ≤ k) ∧ Aside0 (wc.heap[gb117]? = some (.cells #[.int .i64 a0_0, .int .i64 a0_1, .int .i64 a0_2, .int .i64 a0_3, .int .u64 a0_4] 30 (0, 0))) ∧ Aside0 (wc.heap[gb127]? = some (.cells #[.int .i64 t122, .int .i64 t123, .int .i64 t124, .int .i64 t125, .int .u64 t126] 30 (0, 0))) ∧ Aside0 (Below w.heap.size w wc))
      case first =>
        have H := HC6.out
        clear HC6
        by_cases c16 : a0_3 = 1
        · rw [if_pos c16] at H
          have c16b0 : (a0_3 == 1) = true := beq_iff_eq.mpr c16
          have c16b1 : (a0_3 != 1) = false := bne_eq_false_iff_eq.mpr c16
          clear c16
          (first | rw [c16b0] | (simp only [i64_w, i32_w]; rw [c16b0]) | skip)
          have H' := Aside0.mk H
          clear H
          have hnb17 := NB117_127.out
          have hnc17 := NB127_117.out
          have hcz18_0 : w13.cell? ⟨gb117, 0, none⟩ = some (.int .i64 a0_0) := (blk_cell BK117.out 0).trans rfl
          have hcz18_1 : w13.cell? ⟨gb117, 1, none⟩ = some (.int .i64 a0_1) := (blk_cell BK117.out 1).trans rfl
          have hcz18_2 : w13.cell? ⟨gb117, 2, none⟩ = some (.int .i64 a0_2) := (blk_cell BK117.out 2).trans rfl
          have hcz18_3 : w13.cell? ⟨gb117, 3, none⟩ = some (.int .i64 a0_3) := (blk_cell BK117.out 3).trans rfl
          have hcz18_4 : w13.cell? ⟨gb117, 4, none⟩ = some (.int .u64 a0_4) := (blk_cell BK117.out 4).trans rfl
          have hfz18_0 := blk_frozen BK117.out 0
          have hfz18_1 := blk_frozen BK117.out 1
          have hfz18_2 := blk_frozen BK117.out 2
          have hfz18_3 := blk_frozen BK117.out 3
          have hfz18_4 := blk_frozen BK117.out 4
          go_wp2
          go_meet
          case rel => exact ⟨_, (true), (by first | rfl | (simp; done) | (simp [*]; done)), H', ⟨by first | omega | exact Nat.le_refl _⟩, ⟨by (with_reducible repeat (first | refine blk_drewN ?_ _ | refine blk_drew ?_ | refine blk_alloc ?_ _)); refine blk_far ?_ NB117_127.out _; (with_reducible repeat (first | refine blk_drewN ?_ _ | refine blk_drew ?_ | refine blk_alloc ?_ _)); refine blk_far ?_ NB117_127.out _; (with_reducible repeat (first | refine blk_drewN ?_ _ | refine blk_drew ?_ | refine blk_alloc ?_ _)); refine blk_far ?_ NB117_127.out _; (with_reducible repeat (first | refine blk_drewN ?_ _ | refine blk_drew ?_ | refine blk_alloc ?_ _)); refine blk_far ?_ NB117_127.out _; (with_reducible repeat (first | refine blk_drewN ?_ _ | refine blk_drew ?_ | refine blk_alloc ?_ _)); refine blk_far ?_ NB117_127.out _; (with_reducible repeat (first | refine blk_drewN ?_ _ | refine blk_drew ?_ | refine blk_alloc ?_ _)); exact BK117.out⟩, ⟨by (with_reducible repeat (first | refine blk_drewN ?_ _ | refine blk_drew ?_ | refine blk_alloc ?_ _)); refine blk_put (cs := #[.int .i64 t122, .int .i64 t123, .int .i64 t124, .int .i64 t125, .int .u64 0]) ?_ 4 _ rfl; (with_reducible repeat (first | refine blk_drewN ?_ _ | refine blk_drew ?_ | refine blk_alloc ?_ _)); refine blk_put (cs := #[.int .i64 t122, .int .i64 t123, .int .i64 t124, .int .i64 0, .int .u64 0]) ?_ 3 _ rfl; (with_reducible repeat (first | refine blk_drewN ?_ _ | refine blk_drew ?_ | refine blk_alloc ?_ _)); refine blk_put (cs := #[.int .i64 t122, .int .i64 t123, .int .i64 0, .int .i64 0, .int .u64 0]) ?_ 2 _ rfl; (with_reducible repeat (first | refine blk_drewN ?_ _ | refine blk_drew ?_ | refine blk_alloc ?_ _)); refine blk_put (cs := #[.int .i64 t122, .int .i64 0, .int .i64 0, .int .i64 0, .int .u64 0]) ?_ 1 _ rfl; (with_reducible repeat (first | refine blk_drewN ?_ _ | refine blk_drew ?_ | refine blk_alloc ?_ _)); refine blk_put (cs := #[.int .i64 0, .int .i64 0, .int .i64 0, .int .i64 0, .int .u64 0]) ?_ 0 _ rfl; (with_reducible repeat (first | refine blk_drewN ?_ _ | refine blk_drew ?_ | refine blk_alloc ?_ _)); exact BK127.out⟩, ⟨by repeat (first | (with_reducible first | exact HB.out | apply below_alloc | apply pw_below_drewN | apply below_drew1 | refine below_set ?_ GE117.out | refine below_set ?_ GE127.out) | exact HB.out)⟩⟩
        · rw [if_neg c16] at H
          have c16b0 : (a0_3 == 1) = false := beq_eq_false_iff_ne.mpr c16
          have c16b1 : (a0_3 != 1) = true := bne_iff_ne.mpr c16
          (first | rw [c16b0] | (simp only [i64_w, i32_w]; rw [c16b0]) | skip)
          by_cases c19 : a0_3 = 2
          · rw [if_pos c19] at H
            have c19b0 : (a0_3 == 2) = true := beq_iff_eq.mpr c19
            have c19b1 : (a0_3 != 2) = false := bne_eq_false_iff_eq.mpr c19
            clear c19
            have H' := Aside0.mk H
            clear H
            have hnb20 := NB117_127.out
            have hnc20 := NB127_117.out
            have hcz21_0 : w13.cell? ⟨gb117, 0, none⟩ = some (.int .i64 a0_0) := (blk_cell BK117.out 0).trans rfl
            have hcz21_1 : w13.cell? ⟨gb117, 1, none⟩ = some (.int .i64 a0_1) := (blk_cell BK117.out 1).trans rfl
            have hcz21_2 : w13.cell? ⟨gb117, 2, none⟩ = some (.int .i64 a0_2) := (blk_cell BK117.out 2).trans rfl
            have hcz21_3 : w13.cell? ⟨gb117, 3, none⟩ = some (.int .i64 a0_3) := (blk_cell BK117.out 3).trans rfl
            have hcz21_4 : w13.cell? ⟨gb117, 4, none⟩ = some (.int .u64 a0_4) := (blk_cell BK117.out 4).trans rfl
            have hfz21_0 := blk_frozen BK117.out 0
            have hfz21_1 := blk_frozen BK117.out 1
            have hfz21_2 := blk_frozen BK117.out 2
            have hfz21_3 := blk_frozen BK117.out 3
            have hfz21_4 := blk_frozen BK117.out 4
            go_wp2
            go_meet
            case rel => exact ⟨_, (true), (by first | rfl | (simp; done) | (simp [*]; done)), H', ⟨by first | omega | exact Nat.le_refl _⟩, ⟨by (with_reducible repeat (first | refine blk_drewN ?_ _ | refine blk_drew ?_ | refine blk_alloc ?_ _)); refine blk_far ?_ NB117_127.out _; (with_reducible repeat (first | refine blk_drewN ?_ _ | refine blk_drew ?_ | refine blk_alloc ?_ _)); refine blk_far ?_ NB117_127.out _; (with_reducible repeat (first | refine blk_drewN ?_ _ | refine blk_drew ?_ | refine blk_alloc ?_ _)); refine blk_far ?_ NB117_127.out _; (with_reducible repeat (first | refine blk_drewN ?_ _ | refine blk_drew ?_ | refine blk_alloc ?_ _)); refine blk_far ?_ NB117_127.out _; (with_reducible repeat (first | refine blk_drewN ?_ _ | refine blk_drew ?_ | refine blk_alloc ?_ _)); refine blk_far ?_ NB117_127.out _; (with_reducible repeat (first | refine blk_drewN ?_ _ | refine blk_drew ?_ | refine blk_alloc ?_ _)); exact BK117.out⟩, ⟨by (with_reducible repeat (first | refine blk_drewN ?_ _ | refine blk_drew ?_ | refine blk_alloc ?_ _)); refine blk_put (cs := #[.int .i64 t122, .int .i64 t123, .int .i64 t124, .int .i64 t125, .int .u64 0]) ?_ 4 _ rfl; (with_reducible repeat (first | refine blk_drewN ?_ _ | refine blk_drew ?_ | refine blk_alloc ?_ _)); refine blk_put (cs := #[.int .i64 t122, .int .i64 t123, .int .i64 t124, .int .i64 0, .int .u64 0]) ?_ 3 _ rfl; (with_reducible repeat (first | refine blk_drewN ?_ _ | refine blk_drew ?_ | refine blk_alloc ?_ _)); refine blk_put (cs := #[.int .i64 t122, .int .i64 t123, .int .i64 0, .int .i64 0, .int .u64 0]) ?_ 2 _ rfl; (with_reducible repeat (first | refine blk_drewN ?_ _ | refine blk_drew ?_ | refine blk_alloc ?_ _)); refine blk_put (cs := #[.int .i64 t122, .int .i64 0, .int .i64 0, .int .i64 0, .int .u64 0]) ?_ 1 _ rfl; (with_reducible repeat (first | refine blk_drewN ?_ _ | refine blk_drew ?_ | refine blk_alloc ?_ _)); refine blk_put (cs := #[.int .i64 0, .int .i64 0, .int .i64 0, .int .i64 0, .int .u64 0]) ?_ 0 _ rfl; (with_reducible repeat (first | refine blk_drewN ?_ _ | refine blk_drew ?_ | refine blk_alloc ?_ _)); exact BK127.out⟩, ⟨by repeat (first | (with_reducible first | exact HB.out | apply below_alloc | apply pw_below_drewN | apply below_drew1 | refine below_set ?_ GE117.out | refine below_set ?_ GE127.out) | exact HB.out)⟩⟩
          · rw [if_neg c19] at H
            have c19b0 : (a0_3 == 2) = false := beq_eq_false_iff_ne.mpr c19
            have c19b1 : (a0_3 != 2) = true := bne_iff_ne.mpr c19
            by_cases c22 : a0_3 = 4
            · rw [if_pos c22] at H
              have c22b0 : (a0_3 == 4) = true := beq_iff_eq.mpr c22
              have c22b1 : (a0_3 != 4) = false := bne_eq_false_iff_eq.mpr c22
              clear c22
              have H' := Aside0.mk H
              clear H
              have hnb23 := NB117_127.out
              have hnc23 := NB127_117.out
              have hcz24_0 : w13.cell? ⟨gb117, 0, none⟩ = some (.int .i64 a0_0) := (blk_cell BK117.out 0).trans rfl
              have hcz24_1 : w13.cell? ⟨gb117, 1, none⟩ = some (.int .i64 a0_1) := (blk_cell BK117.out 1).trans rfl
              have hcz24_2 : w13.cell? ⟨gb117, 2, none⟩ = some (.int .i64 a0_2) := (blk_cell BK117.out 2).trans rfl
              have hcz24_3 : w13.cell? ⟨gb117, 3, none⟩ = some (.int .i64 a0_3) := (blk_cell BK117.out 3).trans rfl
              have hcz24_4 : w13.cell? ⟨gb117, 4, none⟩ = some (.int .u64 a0_4) := (blk_cell BK117.out 4).trans rfl
              have hfz24_0 := blk_frozen BK117.out 0
              have hfz24_1 := blk_frozen BK117.out 1
              have hfz24_2 := blk_frozen BK117.out 2
              have hfz24_3 := blk_frozen BK117.out 3
              have hfz24_4 := blk_frozen BK117.out 4
              go_wp2
              go_meet
              case rel => exact ⟨_, (true), (by first | rfl | (simp; done) | (simp [*]; done)), H', ⟨by first | omega | exact Nat.le_refl _⟩, ⟨by (with_reducible repeat (first | refine blk_drewN ?_ _ | refine blk_drew ?_ | refine blk_alloc ?_ _)); refine blk_far ?_ NB117_127.out _; (with_reducible repeat (first | refine blk_drewN ?_ _ | refine blk_drew ?_ | refine blk_alloc ?_ _)); refine blk_far ?_ NB117_127.out _; (with_reducible repeat (first | refine blk_drewN ?_ _ | refine blk_drew ?_ | refine blk_alloc ?_ _)); refine blk_far ?_ NB117_127.out _; (with_reducible repeat (first | refine blk_drewN ?_ _ | refine blk_drew ?_ | refine blk_alloc ?_ _)); refine blk_far ?_ NB117_127.out _; (with_reducible repeat (first | refine blk_drewN ?_ _ | refine blk_drew ?_ | refine blk_alloc ?_ _)); refine blk_far ?_ NB117_127.out _; (with_reducible repeat (first | refine blk_drewN ?_ _ | refine blk_drew ?_ | refine blk_alloc ?_ _)); exact BK117.out⟩, ⟨by (with_reducible repeat (first | refine blk_drewN ?_ _ | refine blk_drew ?_ | refine blk_alloc ?_ _)); refine blk_put (cs := #[.int .i64 t122, .int .i64 t123, .int .i64 t124, .int .i64 t125, .int .u64 0]) ?_ 4 _ rfl; (with_reducible repeat (first | refine blk_drewN ?_ _ | refine blk_drew ?_ | refine blk_alloc ?_ _)); refine blk_put (cs := #[.int .i64 t122, .int .i64 t123, .int .i64 t124, .int .i64 0, .int .u64 0]) ?_ 3 _ rfl; (with_reducible repeat (first | refine blk_drewN ?_ _ | refine blk_drew ?_ | refine blk_alloc ?_ _)); refine blk_put (cs := #[.int .i64 t122, .int .i64 t123, .int .i64 0, .int .i64 0, .int .u64 0]) ?_ 2 _ rfl; (with_reducible repeat (first | refine blk_drewN ?_ _ | refine blk_drew ?_ | refine blk_alloc ?_ _)); refine blk_put (cs := #[.int .i64 t122, .int .i64 0, .int .i64 0, .int .i64 0, .int .u64 0]) ?_ 1 _ rfl; (with_reducible repeat (first | refine blk_drewN ?_ _ | refine blk_drew ?_ | refine blk_alloc ?_ _)); refine blk_put (cs := #[.int .i64 0, .int .i64 0, .int .i64 0, .int .i64 0, .int .u64 0]) ?_ 0 _ rfl; (with_reducible repeat (first | refine blk_drewN ?_ _ | refine blk_drew ?_ | refine blk_alloc ?_ _)); exact BK127.out⟩, ⟨by repeat (first | (with_reducible first | exact HB.out | apply below_alloc | apply pw_below_drewN | apply below_drew1 | refine below_set ?_ GE117.out | refine below_set ?_ GE127.out) | exact HB.out)⟩⟩
            · rw [if_neg c22] at H
              have c22b0 : (a0_3 == 4) = false := beq_eq_false_iff_ne.mpr c22
              have c22b1 : (a0_3 != 4) = true := bne_iff_ne.mpr c22
              have H' := Aside0.mk H
              clear H
              have hnb25 := NB117_127.out
              have hnc25 := NB127_117.out
              have hcz26_0 : w13.cell? ⟨gb117, 0, none⟩ = some (.int .i64 a0_0) := (blk_cell BK117.out 0).trans rfl
              have hcz26_1 : w13.cell? ⟨gb117, 1, none⟩ = some (.int .i64 a0_1) := (blk_cell BK117.out 1).trans rfl
              have hcz26_2 : w13.cell? ⟨gb117, 2, none⟩ = some (.int .i64 a0_2) := (blk_cell BK117.out 2).trans rfl
              have hcz26_3 : w13.cell? ⟨gb117, 3, none⟩ = some (.int .i64 a0_3) := (blk_cell BK117.out 3).trans rfl
              have hcz26_4 : w13.cell? ⟨gb117, 4, none⟩ = some (.int .u64 a0_4) := (blk_cell BK117.out 4).trans rfl
              have hfz26_0 := blk_frozen BK117.out 0
              have hfz26_1 := blk_frozen BK117.out 1
              have hfz26_2 := blk_frozen BK117.out 2
              have hfz26_3 := blk_frozen BK117.out 3
              have hfz26_4 := blk_frozen BK117.out 4
              go_wp2
              go_meet
              case rel => exact ⟨_, ((a0_3 == 8)), (by first | rfl | (simp; done) | (simp [*]; done)), H', ⟨by first | omega | exact Nat.le_refl _⟩, ⟨by (with_reducible repeat (first | refine blk_drewN ?_ _ | refine blk_drew ?_ | refine blk_alloc ?_ _)); refine blk_far ?_ NB117_127.out _; (with_reducible repeat (first | refine blk_drewN ?_ _ | refine blk_drew ?_ | refine blk_alloc ?_ _)); refine blk_far ?_ NB117_127.out _; (with_reducible repeat (first | refine blk_drewN ?_ _ | refine blk_drew ?_ | refine blk_alloc ?_ _)); refine blk_far ?_ NB117_127.out _; (with_reducible repeat (first | refine blk_drewN ?_ _ | refine blk_drew ?_ | refine blk_alloc ?_ _)); refine blk_far ?_ NB117_127.out _; (with_reducible repeat (first | refine blk_drewN ?_ _ | refine blk_drew ?_ | refine blk_alloc ?_ _)); refine blk_far ?_ NB117_127.out _; (with_reducible repeat (first | refine blk_drewN ?_ _ | refine blk_drew ?_ | refine blk_alloc ?_ _)); exact BK117.out⟩, ⟨by (with_reducible repeat (first | refine blk_drewN ?_ _ | refine blk_drew ?_ | refine blk_alloc ?_ _)); refine blk_put (cs := #[.int .i64 t122, .int .i64 t123, .int .i64 t124, .int .i64 t125, .int .u64 0]) ?_ 4 _ rfl; (with_reducible repeat (first | refine blk_drewN ?_ _ | refine blk_drew ?_ | refine blk_alloc ?_ _)); refine blk_put (cs := #[.int .i64 t122, .int .i64 t123, .int .i64 t124, .int .i64 0, .int .u64 0]) ?_ 3 _ rfl; (with_reducible repeat (first | refine blk_drewN ?_ _ | refine blk_drew ?_ | refine blk_alloc ?_ _)); refine blk_put (cs := #[.int .i64 t122, .int .i64 t123, .int .i64 0, .int .i64 0, .int .u64 0]) ?_ 2 _ rfl; (with_reducible repeat (first | refine blk_drewN ?_ _ | refine blk_drew ?_ | refine blk_alloc ?_ _)); refine blk_put (cs := #[.int .i64 t122, .int .i64 0, .int .i64 0, .int .i64 0, .int .u64 0]) ?_ 1 _ rfl; (with_reducible repeat (first | refine blk_drewN ?_ _ | refine blk_drew ?_ | refine blk_alloc ?_ _)); refine blk_put (cs := #[.int .i64 0, .int .i64 0, .int .i64 0, .int .i64 0, .int .u64 0]) ?_ 0 _ rfl; (with_reducible repeat (first | refine blk_drewN ?_ _ | refine blk_drew ?_ | refine blk_alloc ?_ _)); exact BK127.out⟩, ⟨by repeat (first | (with_reducible first | exact HB.out | apply below_alloc | apply pw_below_drewN | apply below_drew1 | refine below_set ?_ GE117.out | refine below_set ?_ GE127.out) | exact HB.out)⟩⟩
      case rest =>
        clear HC6
        try clear c1
        try clear p1
        try clear q1
        try clear hx1
        try clear c2
        try clear p2
        try clear c3
        try clear c3b0
        try clear c4
        try clear c4b0
        try clear p12
        try clear q12
        try clear hx12
        try clear c14
        try clear c16
        try clear c16b0
        try clear c16b1
        try clear c17
        try clear c18
        try clear c19
        try clear c19b0
        try clear c19b1
        try clear c20
        try clear c21
        try clear c22
        try clear c22b0
        try clear c22b1
        try clear c23
        try clear c24
        try clear c25
        try clear hcz11_0
        try clear hcz11_1
        try clear hcz11_2
        try clear hcz11_3
        try clear hcz11_4
        try clear hcz15_0
        try clear hcz15_1
        try clear hcz15_2
        try clear hcz15_3
        try clear hcz15_4
        try clear hcz18_0
        try clear hcz18_1
        try clear hcz18_2
        try clear hcz18_3
        try clear hcz18_4
        try clear hcz21_0
        try clear hcz21_1
        try clear hcz21_2
        try clear hcz21_3
        try clear hcz21_4
        try clear hcz24_0
        try clear hcz24_1
        try clear hcz24_2
        try clear hcz24_3
        try clear hcz24_4
        try clear hcz26_0
        try clear hcz26_1
        try clear hcz26_2
        try clear hcz26_3
        try clear hcz26_4
        try clear hfz11_0
        try clear hfz11_1
        try clear hfz11_2
        try clear hfz11_3
        try clear hfz11_4
        try clear hfz15_0
        try clear hfz15_1
        try clear hfz15_2
        try clear hfz15_3
        try clear hfz15_4
        try clear hfz18_0
        try clear hfz18_1
        try clear hfz18_2
        try clear hfz18_3
        try clear hfz18_4
        try clear hfz21_0
        try clear hfz21_1
        try clear hfz21_2
        try clear hfz21_3
        try clear hfz21_4
        try clear hfz24_0
        try clear hfz24_1
        try clear hfz24_2
        try clear hfz24_3
        try clear hfz24_4
        try clear hfz26_0
        try clear hfz26_1
        try clear hfz26_2
        try clear hfz26_3
        try clear hfz26_4
        try clear hx121_0
        try clear hx121_1
        try clear p121
        try clear q121
        obtain ⟨kq, x5_5, rfl, HA, HJ5, BK117, BK127, HB⟩ := hcut
        cases kq with
        | zero => exact absurd HA.out (by simp [code_wrong.j0])
        | succ kj5 =>
          have H := HA.out
          clear HA
          simp only [code_wrong.j0] at H
          have HC27 := Aside0.mk H
          clear H
          go_upto_region 4 with (fail)
          go_cut [33] (fun v33 wc => ∃ (kq : Nat) (x33_26 : Bool), v33 = .bool x33_26 ∧ Aside0 (code_wrong.j1 kq ((rd_T47 t118 a0_0).f1) x5_5 x33_26 a0_0 a0_1 a0_2 a0_3 a0_4 t122 t123 t124 t125 t126 = some r) ∧ Aside0 (kq ≤ kj5) ∧ Aside0 (wc.heap[gb117]? = some (.cells #[.int .i64 a0_0, .int .i64 a0_1, .int .i64 a0_2, .int .i64 a0_3, .int .u64 a0_4] 30 (0, 0))) ∧ Aside0 (wc.heap[gb127]? = some (.cells #[.int .i64 t122, .int .i64 t123, .int .i64 t124, .int .i64 t125, .int .u64 t126] 30 (0, 0))) ∧ Aside0 (Below w.heap.size w wc))
          case first =>
            have H := HC27.out
            clear HC27
            by_cases c28 : a0_1 = t123
            · rw [if_pos c28] at H
              have c28b0 : (a0_1 == t123) = true := beq_iff_eq.mpr c28
              have c28b1 : (a0_1 != t123) = false := bne_eq_false_iff_eq.mpr c28
              clear c28
              (first | rw [c28b0] | (simp only [i64_w, i32_w]; rw [c28b0]) | skip)
              replace H := Option.bind_eq_some_iff.mp H
              obtain ⟨t128, A290, H⟩ := H
              replace H : (code_wrong.j1 kj5 ((rd_T47 t118 a0_0).f1) x5_5 (!t128) a0_0 a0_1 a0_2 a0_3 a0_4 t122 t123 t124 t125 t126) = some r := H
              have A29 := Aside0.mk A290
              clear A290
              have H' := Aside0.mk H
              clear H
              have hnb30 := NB117_127.out
              have hnc30 := NB127_117.out
              have hcz31_0 : wc.cell? ⟨gb117, 0, none⟩ = some (.int .i64 a0_0) := (blk_cell BK117.out 0).trans rfl
              have hcz31_1 : wc.cell? ⟨gb117, 1, none⟩ = some (.int .i64 a0_1) := (blk_cell BK117.out 1).trans rfl
              have hcz31_2 : wc.cell? ⟨gb117, 2, none⟩ = some (.int .i64 a0_2) := (blk_cell BK117.out 2).trans rfl
              have hcz31_3 : wc.cell? ⟨gb117, 3, none⟩ = some (.int .i64 a0_3) := (blk_cell BK117.out 3).trans rfl
              have hcz31_4 : wc.cell? ⟨gb117, 4, none⟩ = some (.int .u64 a0_4) := (blk_cell BK117.out 4).trans rfl
              have hfz31_0 := blk_frozen BK117.out 0
              have hfz31_1 := blk_frozen BK117.out 1
              have hfz31_2 := blk_frozen BK117.out 2
              have hfz31_3 := blk_frozen BK117.out 3
              have hfz31_4 := blk_frozen BK117.out 4
              have hcz32_0 : wc.cell? ⟨gb127, 0, none⟩ = some (.int .i64 t122) := (blk_cell BK127.out 0).trans rfl
              have hcz32_1 : wc.cell? ⟨gb127, 1, none⟩ = some (.int .i64 t123) := (blk_cell BK127.out 1).trans rfl
              have hcz32_2 : wc.cell? ⟨gb127, 2, none⟩ = some (.int .i64 t124) := (blk_cell BK127.out 2).trans rfl
              have hcz32_3 : wc.cell? ⟨gb127, 3, none⟩ = some (.int .i64 t125) := (blk_cell BK127.out 3).trans rfl
              have hcz32_4 : wc.cell? ⟨gb127, 4, none⟩ = some (.int .u64 t126) := (blk_cell BK127.out 4).trans rfl
              have hfz32_0 := blk_frozen BK127.out 0
              have hfz32_1 := blk_frozen BK127.out 1
              have hfz32_2 := blk_frozen BK127.out 2
              have hfz32_3 := blk_frozen BK127.out 3
              have hfz32_4 := blk_frozen BK127.out 4
              go_wp2_with (first | (go_at_call 25; (with_reducible refine (code_register.calls a0_1 t128 _ A29.out).mono ?_); rintro e w' ⟨rfl, ⟨nd, rfl⟩⟩))
              go_meet
              case rel => exact ⟨_, (!t128), (by first | rfl | (simp; done) | (simp [*]; done)), H', ⟨by have := HJ5.out; first | omega | exact Nat.le_refl _⟩, ⟨by (with_reducible repeat (first | refine blk_drewN ?_ _ | refine blk_drew ?_ | refine blk_alloc ?_ _)); exact BK117.out⟩, ⟨by (with_reducible repeat (first | refine blk_drewN ?_ _ | refine blk_drew ?_ | refine blk_alloc ?_ _)); exact BK127.out⟩, ⟨by repeat (first | (with_reducible first | exact HB.out | apply below_alloc | apply pw_below_drewN | apply below_drew1 | refine below_set ?_ GE117.out | refine below_set ?_ GE127.out) | exact HB.out)⟩⟩
            · rw [if_neg c28] at H
              have c28b0 : (a0_1 == t123) = false := beq_eq_false_iff_ne.mpr c28
              have c28b1 : (a0_1 != t123) = true := bne_iff_ne.mpr c28
              (first | rw [c28b0] | (simp only [i64_w, i32_w]; rw [c28b0]) | skip)
              have H' := Aside0.mk H
              clear H
              have hnb33 := NB117_127.out
              have hnc33 := NB127_117.out
              have hcz34_0 : wc.cell? ⟨gb117, 0, none⟩ = some (.int .i64 a0_0) := (blk_cell BK117.out 0).trans rfl
              have hcz34_1 : wc.cell? ⟨gb117, 1, none⟩ = some (.int .i64 a0_1) := (blk_cell BK117.out 1).trans rfl
              have hcz34_2 : wc.cell? ⟨gb117, 2, none⟩ = some (.int .i64 a0_2) := (blk_cell BK117.out 2).trans rfl
              have hcz34_3 : wc.cell? ⟨gb117, 3, none⟩ = some (.int .i64 a0_3) := (blk_cell BK117.out 3).trans rfl
              have hcz34_4 : wc.cell? ⟨gb117, 4, none⟩ = some (.int .u64 a0_4) := (blk_cell BK117.out 4).trans rfl
              have hfz34_0 := blk_frozen BK117.out 0
              have hfz34_1 := blk_frozen BK117.out 1
              have hfz34_2 := blk_frozen BK117.out 2
              have hfz34_3 := blk_frozen BK117.out 3
              have hfz34_4 := blk_frozen BK117.out 4
              have hcz35_0 : wc.cell? ⟨gb127, 0, none⟩ = some (.int .i64 t122) := (blk_cell BK127.out 0).trans rfl
              have hcz35_1 : wc.cell? ⟨gb127, 1, none⟩ = some (.int .i64 t123) := (blk_cell BK127.out 1).trans rfl
              have hcz35_2 : wc.cell? ⟨gb127, 2, none⟩ = some (.int .i64 t124) := (blk_cell BK127.out 2).trans rfl
              have hcz35_3 : wc.cell? ⟨gb127, 3, none⟩ = some (.int .i64 t125) := (blk_cell BK127.out 3).trans rfl
              have hcz35_4 : wc.cell? ⟨gb127, 4, none⟩ = some (.int .u64 t126) := (blk_cell BK127.out 4).trans rfl
              have hfz35_0 := blk_frozen BK127.out 0
              have hfz35_1 := blk_frozen BK127.out 1
              have hfz35_2 := blk_frozen BK127.out 2
              have hfz35_3 := blk_frozen BK127.out 3
              have hfz35_4 := blk_frozen BK127.out 4
              go_wp2
              go_meet
              case rel => exact ⟨_, (true), (by first | rfl | (simp; done) | (simp [*]; done)), H', ⟨by have := HJ5.out; first | omega | exact Nat.le_refl _⟩, ⟨by (with_reducible repeat (first | refine blk_drewN ?_ _ | refine blk_drew ?_ | refine blk_alloc ?_ _)); exact BK117.out⟩, ⟨by (with_reducible repeat (first | refine blk_drewN ?_ _ | refine blk_drew ?_ | refine blk_alloc ?_ _)); exact BK127.out⟩, ⟨by repeat (first | (with_reducible first | exact HB.out | apply below_alloc | apply pw_below_drewN | apply below_drew1 | refine below_set ?_ GE117.out | refine below_set ?_ GE127.out) | exact HB.out)⟩⟩
          case rest =>
            clear HC27
            try clear c1
            try clear p1
            try clear q1
            try clear hx1
            try clear c2
            try clear p2
            try clear c3
            try clear c3b0
            try clear c4
            try clear c4b0
            try clear p12
            try clear q12
            try clear hx12
            try clear c14
            try clear c16
            try clear c16b0
            try clear c16b1
            try clear c17
            try clear c18
            try clear c19
            try clear c19b0
            try clear c19b1
            try clear c20
            try clear c21
            try clear c22
            try clear c22b0
            try clear c22b1
            try clear c23
            try clear c24
            try clear c25
            try clear c28
            try clear c28b0
            try clear c28b1
            try clear c30
            try clear c33
            try clear hcz11_0
            try clear hcz11_1
            try clear hcz11_2
            try clear hcz11_3
            try clear hcz11_4
            try clear hcz15_0
            try clear hcz15_1
            try clear hcz15_2
            try clear hcz15_3
            try clear hcz15_4
            try clear hcz18_0
            try clear hcz18_1
            try clear hcz18_2
            try clear hcz18_3
            try clear hcz18_4
            try clear hcz21_0
            try clear hcz21_1
            try clear hcz21_2
            try clear hcz21_3
            try clear hcz21_4
            try clear hcz24_0
            try clear hcz24_1
            try clear hcz24_2
            try clear hcz24_3
            try clear hcz24_4
            try clear hcz26_0
            try clear hcz26_1
            try clear hcz26_2
            try clear hcz26_3
            try clear hcz26_4
            try clear hcz31_0
            try clear hcz31_1
            try clear hcz31_2
            try clear hcz31_3
            try clear hcz31_4
            try clear hcz32_0
            try clear hcz32_1
            try clear hcz32_2
            try clear hcz32_3
            try clear hcz32_4
            try clear hcz34_0
            try clear hcz34_1
            try clear hcz34_2
            try clear hcz34_3
            try clear hcz34_4
            try clear hcz35_0
            try clear hcz35_1
            try clear hcz35_2
            try clear hcz35_3
            try clear hcz35_4
            try clear hfz11_0
            try clear hfz11_1
            try clear hfz11_2
            try clear hfz11_3
            try clear hfz11_4
            try clear hfz15_0
            try clear hfz15_1
            try clear hfz15_2
            try clear hfz15_3
            try clear hfz15_4
            try clear hfz18_0
            try clear hfz18_1
            try clear hfz18_2
            try clear hfz18_3
            try clear hfz18_4
            try clear hfz21_0
            try clear hfz21_1
            try clear hfz21_2
            try clear hfz21_3
            try clear hfz21_4
            try clear hfz24_0
            try clear hfz24_1
            try clear hfz24_2
            try clear hfz24_3
            try clear hfz24_4
            try clear hfz26_0
            try clear hfz26_1
            try clear hfz26_2
            try clear hfz26_3
            try clear hfz26_4
            try clear hfz31_0
            try clear hfz31_1
            try clear hfz31_2
            try clear hfz31_3
            try clear hfz31_4
            try clear hfz32_0
            try clear hfz32_1
            try clear hfz32_2
            try clear hfz32_3
            try clear hfz32_4
            try clear hfz34_0
            try clear hfz34_1
            try clear hfz34_2
            try clear hfz34_3
            try clear hfz34_4
            try clear hfz35_0
            try clear hfz35_1
            try clear hfz35_2
            try clear hfz35_3
            try clear hfz35_4
            try clear hx121_0
            try clear hx121_1
            try clear p1
            try clear p12
            try clear p121
            try clear p2
            try clear q1
            try clear q12
            try clear q121
            obtain ⟨kq, x33_26, rfl, HA, HJ26, BK117, BK127, HB⟩ := hcut
            cases kq with
            | zero => exact absurd HA.out (by simp [code_wrong.j1])
            | succ kj26 =>
              have H := HA.out
              clear HA
              simp only [code_wrong.j1] at H
              by_cases c36 : x33_26 = true
              · subst c36
                have H1 : (some 1) = some r := by rw [if_pos rfl] at H; exact H
                clear H
                have H := H1
                clear H1
                obtain rfl := Option.some.inj H
                go_wp2
                go_ret
                exact ⟨by first | rfl | (simp [errW_none, errW_some] <;> rfl) | (simp [*, errW_none, errW_some] <;> rfl), by repeat (first | (with_reducible first | exact HB.out | apply below_alloc | apply pw_below_drewN | apply below_drew1 | refine below_set ?_ GE117.out | refine below_set ?_ GE127.out) | exact HB.out)⟩
              · replace c36 := Bool.eq_false_iff.mpr c36
                subst c36
                have H1 : (if a0_2 = t124 then ((code_register.f a0_2).bind fun t129 => (code_wrong.j2 kj26 ((rd_T47 t118 a0_0).f1) x5_5 (!t129) a0_0 a0_1 a0_2 a0_3 a0_4 t122 t123 t124 t125 t126)) else (code_wrong.j2 kj26 ((rd_T47 t118 a0_0).f1) x5_5 true a0_0 a0_1 a0_2 a0_3 a0_4 t122 t123 t124 t125 t126)) = some r := by rw [if_neg (show ¬ (false = true) by decide)] at H; exact H
                clear H
                have H := H1
                clear H1
                have HC37 := Aside0.mk H
                clear H
                go_upto_region 6 with (fail)
                go_cut [45] (fun v45 wc => ∃ (kq : Nat) (x45_36 : Bool), v45 = .bool x45_36 ∧ Aside0 (code_wrong.j2 kq ((rd_T47 t118 a0_0).f1) x5_5 x45_36 a0_0 a0_1 a0_2 a0_3 a0_4 t122 t123 t124 t125 t126 = some r) ∧ Aside0 (kq ≤ kj26) ∧ Aside0 (wc.heap[gb117]? = some (.cells #[.int .i64 a0_0, .int .i64 a0_1, .int .i64 a0_2, .int .i64 a0_3, .int .u64 a0_4] 30 (0, 0))) ∧ Aside0 (wc.heap[gb127]? = some (.cells #[.int .i64 t122, .int .i64 t123, .int .i64 t124, .int .i64 t125, .int .u64 t126] 30 (0, 0))) ∧ Aside0 (Below w.heap.size w wc))
                case first =>
                  have H := HC37.out
                  clear HC37
                  by_cases c38 : a0_2 = t124
                  · rw [if_pos c38] at H
                    have c38b0 : (a0_2 == t124) = true := beq_iff_eq.mpr c38
                    have c38b1 : (a0_2 != t124) = false := bne_eq_false_iff_eq.mpr c38
                    clear c38
                    (first | rw [c38b0] | (simp only [i64_w, i32_w]; rw [c38b0]) | skip)
                    replace H := Option.bind_eq_some_iff.mp H
                    obtain ⟨t129, A390, H⟩ := H
                    replace H : (code_wrong.j2 kj26 ((rd_T47 t118 a0_0).f1) x5_5 (!t129) a0_0 a0_1 a0_2 a0_3 a0_4 t122 t123 t124 t125 t126) = some r := H
                    have A39 := Aside0.mk A390
                    clear A390
                    have H' := Aside0.mk H
                    clear H
                    have hnb40 := NB117_127.out
                    have hnc40 := NB127_117.out
                    have hcz41_0 : wc.cell? ⟨gb117, 0, none⟩ = some (.int .i64 a0_0) := (blk_cell BK117.out 0).trans rfl
                    have hcz41_1 : wc.cell? ⟨gb117, 1, none⟩ = some (.int .i64 a0_1) := (blk_cell BK117.out 1).trans rfl
                    have hcz41_2 : wc.cell? ⟨gb117, 2, none⟩ = some (.int .i64 a0_2) := (blk_cell BK117.out 2).trans rfl
                    have hcz41_3 : wc.cell? ⟨gb117, 3, none⟩ = some (.int .i64 a0_3) := (blk_cell BK117.out 3).trans rfl
                    have hcz41_4 : wc.cell? ⟨gb117, 4, none⟩ = some (.int .u64 a0_4) := (blk_cell BK117.out 4).trans rfl
                    have hfz41_0 := blk_frozen BK117.out 0
                    have hfz41_1 := blk_frozen BK117.out 1
                    have hfz41_2 := blk_frozen BK117.out 2
                    have hfz41_3 := blk_frozen BK117.out 3
                    have hfz41_4 := blk_frozen BK117.out 4
                    have hcz42_0 : wc.cell? ⟨gb127, 0, none⟩ = some (.int .i64 t122) := (blk_cell BK127.out 0).trans rfl
                    have hcz42_1 : wc.cell? ⟨gb127, 1, none⟩ = some (.int .i64 t123) := (blk_cell BK127.out 1).trans rfl
                    have hcz42_2 : wc.cell? ⟨gb127, 2, none⟩ = some (.int .i64 t124) := (blk_cell BK127.out 2).trans rfl
                    have hcz42_3 : wc.cell? ⟨gb127, 3, none⟩ = some (.int .i64 t125) := (blk_cell BK127.out 3).trans rfl
                    have hcz42_4 : wc.cell? ⟨gb127, 4, none⟩ = some (.int .u64 t126) := (blk_cell BK127.out 4).trans rfl
                    have hfz42_0 := blk_frozen BK127.out 0
                    have hfz42_1 := blk_frozen BK127.out 1
                    have hfz42_2 := blk_frozen BK127.out 2
                    have hfz42_3 := blk_frozen BK127.out 3
                    have hfz42_4 := blk_frozen BK127.out 4
                    go_wp2_with (first | (go_at_call 25; (with_reducible refine (code_register.calls a0_2 t129 _ A39.out).mono ?_); rintro e w' ⟨rfl, ⟨nd, rfl⟩⟩))
                    go_meet
                    case rel => exact ⟨_, (!t129), (by first | rfl | (simp; done) | (simp [*]; done)), H', ⟨by have := HJ5.out; have := HJ26.out; first | omega | exact Nat.le_refl _⟩, ⟨by (with_reducible repeat (first | refine blk_drewN ?_ _ | refine blk_drew ?_ | refine blk_alloc ?_ _)); exact BK117.out⟩, ⟨by (with_reducible repeat (first | refine blk_drewN ?_ _ | refine blk_drew ?_ | refine blk_alloc ?_ _)); exact BK127.out⟩, ⟨by repeat (first | (with_reducible first | exact HB.out | apply below_alloc | apply pw_below_drewN | apply below_drew1 | refine below_set ?_ GE117.out | refine below_set ?_ GE127.out) | exact HB.out)⟩⟩
                  · rw [if_neg c38] at H
                    have c38b0 : (a0_2 == t124) = false := beq_eq_false_iff_ne.mpr c38
                    have c38b1 : (a0_2 != t124) = true := bne_iff_ne.mpr c38
                    (first | rw [c38b0] | (simp only [i64_w, i32_w]; rw [c38b0]) | skip)
                    have H' := Aside0.mk H
                    clear H
                    have hnb43 := NB117_127.out
                    have hnc43 := NB127_117.out
                    have hcz44_0 : wc.cell? ⟨gb117, 0, none⟩ = some (.int .i64 a0_0) := (blk_cell BK117.out 0).trans rfl
                    have hcz44_1 : wc.cell? ⟨gb117, 1, none⟩ = some (.int .i64 a0_1) := (blk_cell BK117.out 1).trans rfl
                    have hcz44_2 : wc.cell? ⟨gb117, 2, none⟩ = some (.int .i64 a0_2) := (blk_cell BK117.out 2).trans rfl
                    have hcz44_3 : wc.cell? ⟨gb117, 3, none⟩ = some (.int .i64 a0_3) := (blk_cell BK117.out 3).trans rfl
                    have hcz44_4 : wc.cell? ⟨gb117, 4, none⟩ = some (.int .u64 a0_4) := (blk_cell BK117.out 4).trans rfl
                    have hfz44_0 := blk_frozen BK117.out 0
                    have hfz44_1 := blk_frozen BK117.out 1
                    have hfz44_2 := blk_frozen BK117.out 2
                    have hfz44_3 := blk_frozen BK117.out 3
                    have hfz44_4 := blk_frozen BK117.out 4
                    have hcz45_0 : wc.cell? ⟨gb127, 0, none⟩ = some (.int .i64 t122) := (blk_cell BK127.out 0).trans rfl
                    have hcz45_1 : wc.cell? ⟨gb127, 1, none⟩ = some (.int .i64 t123) := (blk_cell BK127.out 1).trans rfl
                    have hcz45_2 : wc.cell? ⟨gb127, 2, none⟩ = some (.int .i64 t124) := (blk_cell BK127.out 2).trans rfl
                    have hcz45_3 : wc.cell? ⟨gb127, 3, none⟩ = some (.int .i64 t125) := (blk_cell BK127.out 3).trans rfl
                    have hcz45_4 : wc.cell? ⟨gb127, 4, none⟩ = some (.int .u64 t126) := (blk_cell BK127.out 4).trans rfl
                    have hfz45_0 := blk_frozen BK127.out 0
                    have hfz45_1 := blk_frozen BK127.out 1
                    have hfz45_2 := blk_frozen BK127.out 2
                    have hfz45_3 := blk_frozen BK127.out 3
                    have hfz45_4 := blk_frozen BK127.out 4
                    go_wp2
                    go_meet
                    case rel => exact ⟨_, (true), (by first | rfl | (simp; done) | (simp [*]; done)), H', ⟨by have := HJ5.out; have := HJ26.out; first | omega | exact Nat.le_refl _⟩, ⟨by (with_reducible repeat (first | refine blk_drewN ?_ _ | refine blk_drew ?_ | refine blk_alloc ?_ _)); exact BK117.out⟩, ⟨by (with_reducible repeat (first | refine blk_drewN ?_ _ | refine blk_drew ?_ | refine blk_alloc ?_ _)); exact BK127.out⟩, ⟨by repeat (first | (with_reducible first | exact HB.out | apply below_alloc | apply pw_below_drewN | apply below_drew1 | refine below_set ?_ GE117.out | refine below_set ?_ GE127.out) | exact HB.out)⟩⟩
                case rest =>
                  clear HC37
                  try clear c1
                  try clear p1
                  try clear q1
                  try clear hx1
                  try clear c2
                  try clear p2
                  try clear c3
                  try clear c3b0
                  try clear c4
                  try clear c4b0
                  try clear p12
                  try clear q12
                  try clear hx12
                  try clear c14
                  try clear c16
                  try clear c16b0
                  try clear c16b1
                  try clear c17
                  try clear c18
                  try clear c19
                  try clear c19b0
                  try clear c19b1
                  try clear c20
                  try clear c21
                  try clear c22
                  try clear c22b0
                  try clear c22b1
                  try clear c23
                  try clear c24
                  try clear c25
                  try clear c28
                  try clear c28b0
                  try clear c28b1
                  try clear c30
                  try clear c33
                  try clear c36
                  try clear c38
                  try clear c38b0
                  try clear c38b1
                  try clear c40
                  try clear c43
                  try clear hcz11_0
                  try clear hcz11_1
                  try clear hcz11_2
                  try clear hcz11_3
                  try clear hcz11_4
                  try clear hcz15_0
                  try clear hcz15_1
                  try clear hcz15_2
                  try clear hcz15_3
                  try clear hcz15_4
                  try clear hcz18_0
                  try clear hcz18_1
                  try clear hcz18_2
                  try clear hcz18_3
                  try clear hcz18_4
                  try clear hcz21_0
                  try clear hcz21_1
                  try clear hcz21_2
                  try clear hcz21_3
                  try clear hcz21_4
                  try clear hcz24_0
                  try clear hcz24_1
                  try clear hcz24_2
                  try clear hcz24_3
                  try clear hcz24_4
                  try clear hcz26_0
                  try clear hcz26_1
                  try clear hcz26_2
                  try clear hcz26_3
                  try clear hcz26_4
                  try clear hcz31_0
                  try clear hcz31_1
                  try clear hcz31_2
                  try clear hcz31_3
                  try clear hcz31_4
                  try clear hcz32_0
                  try clear hcz32_1
                  try clear hcz32_2
                  try clear hcz32_3
                  try clear hcz32_4
                  try clear hcz34_0
                  try clear hcz34_1
                  try clear hcz34_2
                  try clear hcz34_3
                  try clear hcz34_4
                  try clear hcz35_0
                  try clear hcz35_1
                  try clear hcz35_2
                  try clear hcz35_3
                  try clear hcz35_4
                  try clear hcz41_0
                  try clear hcz41_1
                  try clear hcz41_2
                  try clear hcz41_3
                  try clear hcz41_4
                  try clear hcz42_0
                  try clear hcz42_1
                  try clear hcz42_2
                  try clear hcz42_3
                  try clear hcz42_4
                  try clear hcz44_0
                  try clear hcz44_1
                  try clear hcz44_2
                  try clear hcz44_3
                  try clear hcz44_4
                  try clear hcz45_0
                  try clear hcz45_1
                  try clear hcz45_2
                  try clear hcz45_3
                  try clear hcz45_4
                  try clear hfz11_0
                  try clear hfz11_1
                  try clear hfz11_2
                  try clear hfz11_3
                  try clear hfz11_4
                  try clear hfz15_0
                  try clear hfz15_1
                  try clear hfz15_2
                  try clear hfz15_3
                  try clear hfz15_4
                  try clear hfz18_0
                  try clear hfz18_1
                  try clear hfz18_2
                  try clear hfz18_3
                  try clear hfz18_4
                  try clear hfz21_0
                  try clear hfz21_1
                  try clear hfz21_2
                  try clear hfz21_3
                  try clear hfz21_4
                  try clear hfz24_0
                  try clear hfz24_1
                  try clear hfz24_2
                  try clear hfz24_3
                  try clear hfz24_4
                  try clear hfz26_0
                  try clear hfz26_1
                  try clear hfz26_2
                  try clear hfz26_3
                  try clear hfz26_4
                  try clear hfz31_0
                  try clear hfz31_1
                  try clear hfz31_2
                  try clear hfz31_3
                  try clear hfz31_4
                  try clear hfz32_0
                  try clear hfz32_1
                  try clear hfz32_2
                  try clear hfz32_3
                  try clear hfz32_4
                  try clear hfz34_0
                  try clear hfz34_1
                  try clear hfz34_2
                  try clear hfz34_3
                  try clear hfz34_4
                  try clear hfz35_0
                  try clear hfz35_1
                  try clear hfz35_2
                  try clear hfz35_3
                  try clear hfz35_4
                  try clear hfz41_0
                  try clear hfz41_1
                  try clear hfz41_2
                  try clear hfz41_3
                  try clear hfz41_4
                  try clear hfz42_0
                  try clear hfz42_1
                  try clear hfz42_2
                  try clear hfz42_3
                  try clear hfz42_4
                  try clear hfz44_0
                  try clear hfz44_1
                  try clear hfz44_2
                  try clear hfz44_3
                  try clear hfz44_4
                  try clear hfz45_0
                  try clear hfz45_1
                  try clear hfz45_2
                  try clear hfz45_3
                  try clear hfz45_4
                  try clear hx121_0
                  try clear hx121_1
                  try clear p1
                  try clear p12
                  try clear p121
                  try clear p2
                  try clear q1
                  try clear q12
                  try clear q121
                  obtain ⟨kq, x45_36, rfl, HA, HJ36, BK117, BK127, HB⟩ := hcut
                  cases kq with
                  | zero => exact absurd HA.out (by simp [code_wrong.j2])
                  | succ kj36 =>
                    have H := HA.out
                    clear HA
                    simp only [code_wrong.j2] at H
                    by_cases c46 : x45_36 = true
                    · subst c46
                      have H1 : (some 2) = some r := by rw [if_pos rfl] at H; exact H
                      clear H
                      have H := H1
                      clear H1
                      obtain rfl := Option.some.inj H
                      go_wp2
                      go_ret
                      exact ⟨by first | rfl | (simp [errW_none, errW_some] <;> rfl) | (simp [*, errW_none, errW_some] <;> rfl), by repeat (first | (with_reducible first | exact HB.out | apply below_alloc | apply pw_below_drewN | apply below_drew1 | refine below_set ?_ GE117.out | refine below_set ?_ GE127.out) | exact HB.out)⟩
                    · replace c46 := Bool.eq_false_iff.mpr c46
                      subst c46
                      have H1 : (if a0_3 = t125 then (if (Go.bits .and .i64 ((rd_T47 t118 a0_0).f1) 8) = 0 then ((code_register.f a0_3).bind fun t130 => (code_wrong.j3 kj36 (!t130) a0_0 a0_1 a0_2 a0_3 a0_4 t122 t123 t124 t125 t126)) else (if x5_5 = true then (code_wrong.j3 kj36 false a0_0 a0_1 a0_2 a0_3 a0_4 t122 t123 t124 t125 t126) else (code_wrong.j3 kj36 true a0_0 a0_1 a0_2 a0_3 a0_4 t122 t123 t124 t125 t126))) else (code_wrong.j3 kj36 true a0_0 a0_1 a0_2 a0_3 a0_4 t122 t123 t124 t125 t126)) = some r := by rw [if_neg (show ¬ (false = true) by decide)] at H; exact H
                      clear H
                      have H := H1
                      clear H1
                      have HC47 := Aside0.mk H
                      clear H
                      go_upto_region 8 with (fail)
                      go_cut [57] (fun v57 wc => ∃ (kq : Nat) (x57_46 : Bool), v57 = .bool x57_46 ∧ Aside0 (code_wrong.j3 kq x57_46 a0_0 a0_1 a0_2 a0_3 a0_4 t122 t123 t124 t125 t126 = some r) ∧ Aside0 (kq ≤ kj36) ∧ Aside0 (wc.heap[gb117]? = some (.cells #[.int .i64 a0_0, .int .i64 a0_1, .int .i64 a0_2, .int .i64 a0_3, .int .u64 a0_4] 30 (0, 0))) ∧ Aside0 (wc.heap[gb127]? = some (.cells #[.int .i64 t122, .int .i64 t123, .int .i64 t124, .int .i64 t125, .int .u64 t126] 30 (0, 0))) ∧ Aside0 (Below w.heap.size w wc))
                      case first =>
                        have H := HC47.out
                        clear HC47
                        by_cases c48 : a0_3 = t125
                        · rw [if_pos c48] at H
                          have c48b0 : (a0_3 == t125) = true := beq_iff_eq.mpr c48
                          have c48b1 : (a0_3 != t125) = false := bne_eq_false_iff_eq.mpr c48
                          clear c48
                          (first | rw [c48b0] | (simp only [i64_w, i32_w]; rw [c48b0]) | skip)
                          by_cases c49 : (Go.bits .and .i64 ((rd_T47 t118 a0_0).f1) 8) = 0
                          · rw [if_pos c49] at H
                            have c49b0 : ((Go.bits .and .i64 ((rd_T47 t118 a0_0).f1) 8) == 0) = true := beq_iff_eq.mpr c49
                            have c49b1 : ((Go.bits .and .i64 ((rd_T47 t118 a0_0).f1) 8) != 0) = false := bne_eq_false_iff_eq.mpr c49
                            clear c49
                            replace H := Option.bind_eq_some_iff.mp H
                            obtain ⟨t130, A500, H⟩ := H
                            replace H : (code_wrong.j3 kj36 (!t130) a0_0 a0_1 a0_2 a0_3 a0_4 t122 t123 t124 t125 t126) = some r := H
                            have A50 := Aside0.mk A500
                            clear A500
                            have H' := Aside0.mk H
                            clear H
                            have hnb51 := NB117_127.out
                            have hnc51 := NB127_117.out
                            have hcz52_0 : wc.cell? ⟨gb117, 0, none⟩ = some (.int .i64 a0_0) := (blk_cell BK117.out 0).trans rfl
                            have hcz52_1 : wc.cell? ⟨gb117, 1, none⟩ = some (.int .i64 a0_1) := (blk_cell BK117.out 1).trans rfl
                            have hcz52_2 : wc.cell? ⟨gb117, 2, none⟩ = some (.int .i64 a0_2) := (blk_cell BK117.out 2).trans rfl
                            have hcz52_3 : wc.cell? ⟨gb117, 3, none⟩ = some (.int .i64 a0_3) := (blk_cell BK117.out 3).trans rfl
                            have hcz52_4 : wc.cell? ⟨gb117, 4, none⟩ = some (.int .u64 a0_4) := (blk_cell BK117.out 4).trans rfl
                            have hfz52_0 := blk_frozen BK117.out 0
                            have hfz52_1 := blk_frozen BK117.out 1
                            have hfz52_2 := blk_frozen BK117.out 2
                            have hfz52_3 := blk_frozen BK117.out 3
                            have hfz52_4 := blk_frozen BK117.out 4
                            have hcz53_0 : wc.cell? ⟨gb127, 0, none⟩ = some (.int .i64 t122) := (blk_cell BK127.out 0).trans rfl
                            have hcz53_1 : wc.cell? ⟨gb127, 1, none⟩ = some (.int .i64 t123) := (blk_cell BK127.out 1).trans rfl
                            have hcz53_2 : wc.cell? ⟨gb127, 2, none⟩ = some (.int .i64 t124) := (blk_cell BK127.out 2).trans rfl
                            have hcz53_3 : wc.cell? ⟨gb127, 3, none⟩ = some (.int .i64 t125) := (blk_cell BK127.out 3).trans rfl
                            have hcz53_4 : wc.cell? ⟨gb127, 4, none⟩ = some (.int .u64 t126) := (blk_cell BK127.out 4).trans rfl
                            have hfz53_0 := blk_frozen BK127.out 0
                            have hfz53_1 := blk_frozen BK127.out 1
                            have hfz53_2 := blk_frozen BK127.out 2
                            have hfz53_3 := blk_frozen BK127.out 3
                            have hfz53_4 := blk_frozen BK127.out 4
                            go_wp2_with (first | (go_at_call 25; (with_reducible refine (code_register.calls a0_3 t130 _ A50.out).mono ?_); rintro e w' ⟨rfl, ⟨nd, rfl⟩⟩))
                            go_meet
                            case rel => exact ⟨_, (!t130), (by first | rfl | (simp; done) | (simp [*]; done)), H', ⟨by have := HJ5.out; have := HJ26.out; have := HJ36.out; first | omega | exact Nat.le_refl _⟩, ⟨by (with_reducible repeat (first | refine blk_drewN ?_ _ | refine blk_drew ?_ | refine blk_alloc ?_ _)); exact BK117.out⟩, ⟨by (with_reducible repeat (first | refine blk_drewN ?_ _ | refine blk_drew ?_ | refine blk_alloc ?_ _)); exact BK127.out⟩, ⟨by repeat (first | (with_reducible first | exact HB.out | apply below_alloc | apply pw_below_drewN | apply below_drew1 | refine below_set ?_ GE117.out | refine below_set ?_ GE127.out) | exact HB.out)⟩⟩
                          · rw [if_neg c49] at H
                            have c49b0 : ((Go.bits .and .i64 ((rd_T47 t118 a0_0).f1) 8) == 0) = false := beq_eq_false_iff_ne.mpr c49
                            have c49b1 : ((Go.bits .and .i64 ((rd_T47 t118 a0_0).f1) 8) != 0) = true := bne_iff_ne.mpr c49
                            by_cases c54 : x5_5 = true
                            · subst c54
                              have H1 : (code_wrong.j3 kj36 false a0_0 a0_1 a0_2 a0_3 a0_4 t122 t123 t124 t125 t126) = some r := by rw [if_pos rfl] at H; exact H
                              clear H
                              have H := H1
                              clear H1
                              have H' := Aside0.mk H
                              clear H
                              have hnb55 := NB117_127.out
                              have hnc55 := NB127_117.out
                              have hcz56_0 : wc.cell? ⟨gb117, 0, none⟩ = some (.int .i64 a0_0) := (blk_cell BK117.out 0).trans rfl
                              have hcz56_1 : wc.cell? ⟨gb117, 1, none⟩ = some (.int .i64 a0_1) := (blk_cell BK117.out 1).trans rfl
                              have hcz56_2 : wc.cell? ⟨gb117, 2, none⟩ = some (.int .i64 a0_2) := (blk_cell BK117.out 2).trans rfl
                              have hcz56_3 : wc.cell? ⟨gb117, 3, none⟩ = some (.int .i64 a0_3) := (blk_cell BK117.out 3).trans rfl
                              have hcz56_4 : wc.cell? ⟨gb117, 4, none⟩ = some (.int .u64 a0_4) := (blk_cell BK117.out 4).trans rfl
                              have hfz56_0 := blk_frozen BK117.out 0
                              have hfz56_1 := blk_frozen BK117.out 1
                              have hfz56_2 := blk_frozen BK117.out 2
                              have hfz56_3 := blk_frozen BK117.out 3
                              have hfz56_4 := blk_frozen BK117.out 4
                              have hcz57_0 : wc.cell? ⟨gb127, 0, none⟩ = some (.int .i64 t122) := (blk_cell BK127.out 0).trans rfl
                              have hcz57_1 : wc.cell? ⟨gb127, 1, none⟩ = some (.int .i64 t123) := (blk_cell BK127.out 1).trans rfl
                              have hcz57_2 : wc.cell? ⟨gb127, 2, none⟩ = some (.int .i64 t124) := (blk_cell BK127.out 2).trans rfl
                              have hcz57_3 : wc.cell? ⟨gb127, 3, none⟩ = some (.int .i64 t125) := (blk_cell BK127.out 3).trans rfl
                              have hcz57_4 : wc.cell? ⟨gb127, 4, none⟩ = some (.int .u64 t126) := (blk_cell BK127.out 4).trans rfl
                              have hfz57_0 := blk_frozen BK127.out 0
                              have hfz57_1 := blk_frozen BK127.out 1
                              have hfz57_2 := blk_frozen BK127.out 2
                              have hfz57_3 := blk_frozen BK127.out 3
                              have hfz57_4 := blk_frozen BK127.out 4
                              go_wp2
                              go_meet
                              case rel => exact ⟨_, (false), (by first | rfl | (simp; done) | (simp [*]; done)), H', ⟨by have := HJ5.out; have := HJ26.out; have := HJ36.out; first | omega | exact Nat.le_refl _⟩, ⟨by (with_reducible repeat (first | refine blk_drewN ?_ _ | refine blk_drew ?_ | refine blk_alloc ?_ _)); exact BK117.out⟩, ⟨by (with_reducible repeat (first | refine blk_drewN ?_ _ | refine blk_drew ?_ | refine blk_alloc ?_ _)); exact BK127.out⟩, ⟨by repeat (first | (with_reducible first | exact HB.out | apply below_alloc | apply pw_below_drewN | apply below_drew1 | refine below_set ?_ GE117.out | refine below_set ?_ GE127.out) | exact HB.out)⟩⟩
                            · replace c54 := Bool.eq_false_iff.mpr c54
                              subst c54
                              have H1 : (code_wrong.j3 kj36 true a0_0 a0_1 a0_2 a0_3 a0_4 t122 t123 t124 t125 t126) = some r := by rw [if_neg (show ¬ (false = true) by decide)] at H; exact H
                              clear H
                              have H := H1
                              clear H1
                              have H' := Aside0.mk H
                              clear H
                              have hnb58 := NB117_127.out
                              have hnc58 := NB127_117.out
                              have hcz59_0 : wc.cell? ⟨gb117, 0, none⟩ = some (.int .i64 a0_0) := (blk_cell BK117.out 0).trans rfl
                              have hcz59_1 : wc.cell? ⟨gb117, 1, none⟩ = some (.int .i64 a0_1) := (blk_cell BK117.out 1).trans rfl
                              have hcz59_2 : wc.cell? ⟨gb117, 2, none⟩ = some (.int .i64 a0_2) := (blk_cell BK117.out 2).trans rfl
                              have hcz59_3 : wc.cell? ⟨gb117, 3, none⟩ = some (.int .i64 a0_3) := (blk_cell BK117.out 3).trans rfl
                              have hcz59_4 : wc.cell? ⟨gb117, 4, none⟩ = some (.int .u64 a0_4) := (blk_cell BK117.out 4).trans rfl
                              have hfz59_0 := blk_frozen BK117.out 0
                              have hfz59_1 := blk_frozen BK117.out 1
                              have hfz59_2 := blk_frozen BK117.out 2
                              have hfz59_3 := blk_frozen BK117.out 3
                              have hfz59_4 := blk_frozen BK117.out 4
                              have hcz60_0 : wc.cell? ⟨gb127, 0, none⟩ = some (.int .i64 t122) := (blk_cell BK127.out 0).trans rfl
                              have hcz60_1 : wc.cell? ⟨gb127, 1, none⟩ = some (.int .i64 t123) := (blk_cell BK127.out 1).trans rfl
                              have hcz60_2 : wc.cell? ⟨gb127, 2, none⟩ = some (.int .i64 t124) := (blk_cell BK127.out 2).trans rfl
                              have hcz60_3 : wc.cell? ⟨gb127, 3, none⟩ = some (.int .i64 t125) := (blk_cell BK127.out 3).trans rfl
                              have hcz60_4 : wc.cell? ⟨gb127, 4, none⟩ = some (.int .u64 t126) := (blk_cell BK127.out 4).trans rfl
                              have hfz60_0 := blk_frozen BK127.out 0
                              have hfz60_1 := blk_frozen BK127.out 1
                              have hfz60_2 := blk_frozen BK127.out 2
                              have hfz60_3 := blk_frozen BK127.out 3
                              have hfz60_4 := blk_frozen BK127.out 4
                              go_wp2
                              go_meet
                              case rel => exact ⟨_, (true), (by first | rfl | (simp; done) | (simp [*]; done)), H', ⟨by have := HJ5.out; have := HJ26.out; have := HJ36.out; first | omega | exact Nat.le_refl _⟩, ⟨by (with_reducible repeat (first | refine blk_drewN ?_ _ | refine blk_drew ?_ | refine blk_alloc ?_ _)); exact BK117.out⟩, ⟨by (with_reducible repeat (first | refine blk_drewN ?_ _ | refine blk_drew ?_ | refine blk_alloc ?_ _)); exact BK127.out⟩, ⟨by repeat (first | (with_reducible first | exact HB.out | apply below_alloc | apply pw_below_drewN | apply below_drew1 | refine below_set ?_ GE117.out | refine below_set ?_ GE127.out) | exact HB.out)⟩⟩
                        · rw [if_neg c48] at H
                          have c48b0 : (a0_3 == t125) = false := beq_eq_false_iff_ne.mpr c48
                          have c48b1 : (a0_3 != t125) = true := bne_iff_ne.mpr c48
                          (first | rw [c48b0] | (simp only [i64_w, i32_w]; rw [c48b0]) | skip)
                          have H' := Aside0.mk H
                          clear H
                          have hnb61 := NB117_127.out
                          have hnc61 := NB127_117.out
                          have hcz62_0 : wc.cell? ⟨gb117, 0, none⟩ = some (.int .i64 a0_0) := (blk_cell BK117.out 0).trans rfl
                          have hcz62_1 : wc.cell? ⟨gb117, 1, none⟩ = some (.int .i64 a0_1) := (blk_cell BK117.out 1).trans rfl
                          have hcz62_2 : wc.cell? ⟨gb117, 2, none⟩ = some (.int .i64 a0_2) := (blk_cell BK117.out 2).trans rfl
                          have hcz62_3 : wc.cell? ⟨gb117, 3, none⟩ = some (.int .i64 a0_3) := (blk_cell BK117.out 3).trans rfl
                          have hcz62_4 : wc.cell? ⟨gb117, 4, none⟩ = some (.int .u64 a0_4) := (blk_cell BK117.out 4).trans rfl
                          have hfz62_0 := blk_frozen BK117.out 0
                          have hfz62_1 := blk_frozen BK117.out 1
                          have hfz62_2 := blk_frozen BK117.out 2
                          have hfz62_3 := blk_frozen BK117.out 3
                          have hfz62_4 := blk_frozen BK117.out 4
                          have hcz63_0 : wc.cell? ⟨gb127, 0, none⟩ = some (.int .i64 t122) := (blk_cell BK127.out 0).trans rfl
                          have hcz63_1 : wc.cell? ⟨gb127, 1, none⟩ = some (.int .i64 t123) := (blk_cell BK127.out 1).trans rfl
                          have hcz63_2 : wc.cell? ⟨gb127, 2, none⟩ = some (.int .i64 t124) := (blk_cell BK127.out 2).trans rfl
                          have hcz63_3 : wc.cell? ⟨gb127, 3, none⟩ = some (.int .i64 t125) := (blk_cell BK127.out 3).trans rfl
                          have hcz63_4 : wc.cell? ⟨gb127, 4, none⟩ = some (.int .u64 t126) := (blk_cell BK127.out 4).trans rfl
                          have hfz63_0 := blk_frozen BK127.out 0
                          have hfz63_1 := blk_frozen BK127.out 1
                          have hfz63_2 := blk_frozen BK127.out 2
                          have hfz63_3 := blk_frozen BK127.out 3
                          have hfz63_4 := blk_frozen BK127.out 4
                          go_wp2
                          go_meet
                          case rel => exact ⟨_, (true), (by first | rfl | (simp; done) | (simp [*]; done)), H', ⟨by have := HJ5.out; have := HJ26.out; have := HJ36.out; first | omega | exact Nat.le_refl _⟩, ⟨by (with_reducible repeat (first | refine blk_drewN ?_ _ | refine blk_drew ?_ | refine blk_alloc ?_ _)); exact BK117.out⟩, ⟨by (with_reducible repeat (first | refine blk_drewN ?_ _ | refine blk_drew ?_ | refine blk_alloc ?_ _)); exact BK127.out⟩, ⟨by repeat (first | (with_reducible first | exact HB.out | apply below_alloc | apply pw_below_drewN | apply below_drew1 | refine below_set ?_ GE117.out | refine below_set ?_ GE127.out) | exact HB.out)⟩⟩
                      case rest =>
                        clear HC47
                        try clear c1
                        try clear p1
                        try clear q1
                        try clear hx1
                        try clear c2
                        try clear p2
                        try clear c3
                        try clear c3b0
                        try clear c4
                        try clear c4b0
                        try clear c5
                        try clear c6
                        try clear p12
                        try clear q12
                        try clear hx12
                        try clear c14
                        try clear c16
                        try clear c16b0
                        try clear c16b1
                        try clear c17
                        try clear c18
                        try clear c19
                        try clear c19b0
                        try clear c19b1
                        try clear c20
                        try clear c21
                        try clear c22
                        try clear c22b0
                        try clear c22b1
                        try clear c23
                        try clear c24
                        try clear c25
                        try clear c28
                        try clear c28b0
                        try clear c28b1
                        try clear c30
                        try clear c33
                        try clear c36
                        try clear c38
                        try clear c38b0
                        try clear c38b1
                        try clear c40
                        try clear c43
                        try clear c46
                        try clear c48
                        try clear c48b0
                        try clear c48b1
                        try clear c49
                        try clear c49b0
                        try clear c49b1
                        try clear c51
                        try clear c54
                        try clear c55
                        try clear c58
                        try clear c61
                        try clear hcz11_0
                        try clear hcz11_1
                        try clear hcz11_2
                        try clear hcz11_3
                        try clear hcz11_4
                        try clear hcz15_0
                        try clear hcz15_1
                        try clear hcz15_2
                        try clear hcz15_3
                        try clear hcz15_4
                        try clear hcz18_0
                        try clear hcz18_1
                        try clear hcz18_2
                        try clear hcz18_3
                        try clear hcz18_4
                        try clear hcz21_0
                        try clear hcz21_1
                        try clear hcz21_2
                        try clear hcz21_3
                        try clear hcz21_4
                        try clear hcz24_0
                        try clear hcz24_1
                        try clear hcz24_2
                        try clear hcz24_3
                        try clear hcz24_4
                        try clear hcz26_0
                        try clear hcz26_1
                        try clear hcz26_2
                        try clear hcz26_3
                        try clear hcz26_4
                        try clear hcz31_0
                        try clear hcz31_1
                        try clear hcz31_2
                        try clear hcz31_3
                        try clear hcz31_4
                        try clear hcz32_0
                        try clear hcz32_1
                        try clear hcz32_2
                        try clear hcz32_3
                        try clear hcz32_4
                        try clear hcz34_0
                        try clear hcz34_1
                        try clear hcz34_2
                        try clear hcz34_3
                        try clear hcz34_4
                        try clear hcz35_0
                        try clear hcz35_1
                        try clear hcz35_2
                        try clear hcz35_3
                        try clear hcz35_4
                        try clear hcz41_0
                        try clear hcz41_1
                        try clear hcz41_2
                        try clear hcz41_3
                        try clear hcz41_4
                        try clear hcz42_0
                        try clear hcz42_1
                        try clear hcz42_2
                        try clear hcz42_3
                        try clear hcz42_4
                        try clear hcz44_0
                        try clear hcz44_1
                        try clear hcz44_2
                        try clear hcz44_3
                        try clear hcz44_4
                        try clear hcz45_0
                        try clear hcz45_1
                        try clear hcz45_2
                        try clear hcz45_3
                        try clear hcz45_4
                        try clear hcz52_0
                        try clear hcz52_1
                        try clear hcz52_2
                        try clear hcz52_3
                        try clear hcz52_4
                        try clear hcz53_0
                        try clear hcz53_1
                        try clear hcz53_2
                        try clear hcz53_3
                        try clear hcz53_4
                        try clear hcz56_0
                        try clear hcz56_1
                        try clear hcz56_2
                        try clear hcz56_3
                        try clear hcz56_4
                        try clear hcz57_0
                        try clear hcz57_1
                        try clear hcz57_2
                        try clear hcz57_3
                        try clear hcz57_4
                        try clear hcz59_0
                        try clear hcz59_1
                        try clear hcz59_2
                        try clear hcz59_3
                        try clear hcz59_4
                        try clear hcz60_0
                        try clear hcz60_1
                        try clear hcz60_2
                        try clear hcz60_3
                        try clear hcz60_4
                        try clear hcz62_0
                        try clear hcz62_1
                        try clear hcz62_2
                        try clear hcz62_3
                        try clear hcz62_4
                        try clear hcz63_0
                        try clear hcz63_1
                        try clear hcz63_2
                        try clear hcz63_3
                        try clear hcz63_4
                        try clear hfz11_0
                        try clear hfz11_1
                        try clear hfz11_2
                        try clear hfz11_3
                        try clear hfz11_4
                        try clear hfz15_0
                        try clear hfz15_1
                        try clear hfz15_2
                        try clear hfz15_3
                        try clear hfz15_4
                        try clear hfz18_0
                        try clear hfz18_1
                        try clear hfz18_2
                        try clear hfz18_3
                        try clear hfz18_4
                        try clear hfz21_0
                        try clear hfz21_1
                        try clear hfz21_2
                        try clear hfz21_3
                        try clear hfz21_4
                        try clear hfz24_0
                        try clear hfz24_1
                        try clear hfz24_2
                        try clear hfz24_3
                        try clear hfz24_4
                        try clear hfz26_0
                        try clear hfz26_1
                        try clear hfz26_2
                        try clear hfz26_3
                        try clear hfz26_4
                        try clear hfz31_0
                        try clear hfz31_1
                        try clear hfz31_2
                        try clear hfz31_3
                        try clear hfz31_4
                        try clear hfz32_0
                        try clear hfz32_1
                        try clear hfz32_2
                        try clear hfz32_3
                        try clear hfz32_4
                        try clear hfz34_0
                        try clear hfz34_1
                        try clear hfz34_2
                        try clear hfz34_3
                        try clear hfz34_4
                        try clear hfz35_0
                        try clear hfz35_1
                        try clear hfz35_2
                        try clear hfz35_3
                        try clear hfz35_4
                        try clear hfz41_0
                        try clear hfz41_1
                        try clear hfz41_2
                        try clear hfz41_3
                        try clear hfz41_4
                        try clear hfz42_0
                        try clear hfz42_1
                        try clear hfz42_2
                        try clear hfz42_3
                        try clear hfz42_4
                        try clear hfz44_0
                        try clear hfz44_1
                        try clear hfz44_2
                        try clear hfz44_3
                        try clear hfz44_4
                        try clear hfz45_0
                        try clear hfz45_1
                        try clear hfz45_2
                        try clear hfz45_3
                        try clear hfz45_4
                        try clear hfz52_0
                        try clear hfz52_1
                        try clear hfz52_2
                        try clear hfz52_3
                        try clear hfz52_4
                        try clear hfz53_0
                        try clear hfz53_1
                        try clear hfz53_2
                        try clear hfz53_3
                        try clear hfz53_4
                        try clear hfz56_0
                        try clear hfz56_1
                        try clear hfz56_2
                        try clear hfz56_3
                        try clear hfz56_4
                        try clear hfz57_0
                        try clear hfz57_1
                        try clear hfz57_2
                        try clear hfz57_3
                        try clear hfz57_4
                        try clear hfz59_0
                        try clear hfz59_1
                        try clear hfz59_2
                        try clear hfz59_3
                        try clear hfz59_4
                        try clear hfz60_0
                        try clear hfz60_1
                        try clear hfz60_2
                        try clear hfz60_3
                        try clear hfz60_4
                        try clear hfz62_0
                        try clear hfz62_1
                        try clear hfz62_2
                        try clear hfz62_3
                        try clear hfz62_4
                        try clear hfz63_0
                        try clear hfz63_1
                        try clear hfz63_2
                        try clear hfz63_3
                        try clear hfz63_4
                        try clear hx121_0
                        try clear hx121_1
                        try clear p1
                        try clear p12
                        try clear p121
                        try clear p2
                        try clear q1
                        try clear q12
                        try clear q121
                        obtain ⟨kq, x57_46, rfl, HA, HJ46, BK117, BK127, HB⟩ := hcut
                        cases kq with
                        | zero => exact absurd HA.out (by simp [code_wrong.j3])
                        | succ kj46 =>
                          have H := HA.out
                          clear HA
                          simp only [code_wrong.j3] at H
                          by_cases c64 : x57_46 = true
                          · subst c64
                            have H1 : (some 3) = some r := by rw [if_pos rfl] at H; exact H
                            clear H
                            have H := H1
                            clear H1
                            obtain rfl := Option.some.inj H
                            go_wp2
                            go_ret
                            exact ⟨by first | rfl | (simp [errW_none, errW_some] <;> rfl) | (simp [*, errW_none, errW_some] <;> rfl), by repeat (first | (with_reducible first | exact HB.out | apply below_alloc | apply pw_below_drewN | apply below_drew1 | refine below_set ?_ GE117.out | refine below_set ?_ GE127.out) | exact HB.out)⟩
                          · replace c64 := Bool.eq_false_iff.mpr c64
                            subst c64
                            have H1 : (if (!(a0_0 == t122) || (!(a0_1 == t123) || (!(a0_2 == t124) || (!(a0_3 == t125) || (!(a0_4 == t126)))))) = true then (some 4) else (some 0)) = some r := by rw [if_neg (show ¬ (false = true) by decide)] at H; exact H
                            clear H
                            have H := H1
                            clear H1
                            by_cases c65 : (!(a0_0 == t122) || (!(a0_1 == t123) || (!(a0_2 == t124) || (!(a0_3 == t125) || (!(a0_4 == t126)))))) = true
                            · rw [if_pos c65] at H
                              have c65b0 : (!(a0_0 == t122) || (!(a0_1 == t123) || (!(a0_2 == t124) || (!(a0_3 == t125) || (!(a0_4 == t126)))))) = true := c65
                              clear c65
                              obtain rfl := Option.some.inj H
                              have hnb66 := NB117_127.out
                              have hnc66 := NB127_117.out
                              have hcz67_0 : wc.cell? ⟨gb117, 0, none⟩ = some (.int .i64 a0_0) := (blk_cell BK117.out 0).trans rfl
                              have hcz67_1 : wc.cell? ⟨gb117, 1, none⟩ = some (.int .i64 a0_1) := (blk_cell BK117.out 1).trans rfl
                              have hcz67_2 : wc.cell? ⟨gb117, 2, none⟩ = some (.int .i64 a0_2) := (blk_cell BK117.out 2).trans rfl
                              have hcz67_3 : wc.cell? ⟨gb117, 3, none⟩ = some (.int .i64 a0_3) := (blk_cell BK117.out 3).trans rfl
                              have hcz67_4 : wc.cell? ⟨gb117, 4, none⟩ = some (.int .u64 a0_4) := (blk_cell BK117.out 4).trans rfl
                              have hfz67_0 := blk_frozen BK117.out 0
                              have hfz67_1 := blk_frozen BK117.out 1
                              have hfz67_2 := blk_frozen BK117.out 2
                              have hfz67_3 := blk_frozen BK117.out 3
                              have hfz67_4 := blk_frozen BK117.out 4
                              have hcz68_0 : wc.cell? ⟨gb127, 0, none⟩ = some (.int .i64 t122) := (blk_cell BK127.out 0).trans rfl
                              have hcz68_1 : wc.cell? ⟨gb127, 1, none⟩ = some (.int .i64 t123) := (blk_cell BK127.out 1).trans rfl
                              have hcz68_2 : wc.cell? ⟨gb127, 2, none⟩ = some (.int .i64 t124) := (blk_cell BK127.out 2).trans rfl
                              have hcz68_3 : wc.cell? ⟨gb127, 3, none⟩ = some (.int .i64 t125) := (blk_cell BK127.out 3).trans rfl
                              have hcz68_4 : wc.cell? ⟨gb127, 4, none⟩ = some (.int .u64 t126) := (blk_cell BK127.out 4).trans rfl
                              have hfz68_0 := blk_frozen BK127.out 0
                              have hfz68_1 := blk_frozen BK127.out 1
                              have hfz68_2 := blk_frozen BK127.out 2
                              have hfz68_3 := blk_frozen BK127.out 3
                              have hfz68_4 := blk_frozen BK127.out 4
                              go_wp2
                              go_ret
                              exact ⟨by first | rfl | (simp [errW_none, errW_some] <;> rfl) | (simp [*, errW_none, errW_some] <;> rfl), by repeat (first | (with_reducible first | exact HB.out | apply below_alloc | apply pw_below_drewN | apply below_drew1 | refine below_set ?_ GE117.out | refine below_set ?_ GE127.out) | exact HB.out)⟩
                            · rw [if_neg c65] at H
                              have c65b0 : (!(a0_0 == t122) || (!(a0_1 == t123) || (!(a0_2 == t124) || (!(a0_3 == t125) || (!(a0_4 == t126)))))) = false := by simpa using c65
                              clear c65
                              obtain rfl := Option.some.inj H
                              have hnb69 := NB117_127.out
                              have hnc69 := NB127_117.out
                              have hcz70_0 : wc.cell? ⟨gb117, 0, none⟩ = some (.int .i64 a0_0) := (blk_cell BK117.out 0).trans rfl
                              have hcz70_1 : wc.cell? ⟨gb117, 1, none⟩ = some (.int .i64 a0_1) := (blk_cell BK117.out 1).trans rfl
                              have hcz70_2 : wc.cell? ⟨gb117, 2, none⟩ = some (.int .i64 a0_2) := (blk_cell BK117.out 2).trans rfl
                              have hcz70_3 : wc.cell? ⟨gb117, 3, none⟩ = some (.int .i64 a0_3) := (blk_cell BK117.out 3).trans rfl
                              have hcz70_4 : wc.cell? ⟨gb117, 4, none⟩ = some (.int .u64 a0_4) := (blk_cell BK117.out 4).trans rfl
                              have hfz70_0 := blk_frozen BK117.out 0
                              have hfz70_1 := blk_frozen BK117.out 1
                              have hfz70_2 := blk_frozen BK117.out 2
                              have hfz70_3 := blk_frozen BK117.out 3
                              have hfz70_4 := blk_frozen BK117.out 4
                              have hcz71_0 : wc.cell? ⟨gb127, 0, none⟩ = some (.int .i64 t122) := (blk_cell BK127.out 0).trans rfl
                              have hcz71_1 : wc.cell? ⟨gb127, 1, none⟩ = some (.int .i64 t123) := (blk_cell BK127.out 1).trans rfl
                              have hcz71_2 : wc.cell? ⟨gb127, 2, none⟩ = some (.int .i64 t124) := (blk_cell BK127.out 2).trans rfl
                              have hcz71_3 : wc.cell? ⟨gb127, 3, none⟩ = some (.int .i64 t125) := (blk_cell BK127.out 3).trans rfl
                              have hcz71_4 : wc.cell? ⟨gb127, 4, none⟩ = some (.int .u64 t126) := (blk_cell BK127.out 4).trans rfl
                              have hfz71_0 := blk_frozen BK127.out 0
                              have hfz71_1 := blk_frozen BK127.out 1
                              have hfz71_2 := blk_frozen BK127.out 2
                              have hfz71_3 := blk_frozen BK127.out 3
                              have hfz71_4 := blk_frozen BK127.out 4
                              go_wp2
                              go_ret
                              exact ⟨by first | rfl | (simp [errW_none, errW_some] <;> rfl) | (simp [*, errW_none, errW_some] <;> rfl), by repeat (first | (with_reducible first | exact HB.out | apply below_alloc | apply pw_below_drewN | apply below_drew1 | refine below_set ?_ GE117.out | refine below_set ?_ GE127.out) | exact HB.out)⟩
    · rw [if_neg c4] at H
      exact absurd H (by simp)
  · rw [if_neg c3] at H
    exact absurd H (by simp)

end Go.Proofs.Ytmgfmabmliphfaa.P
