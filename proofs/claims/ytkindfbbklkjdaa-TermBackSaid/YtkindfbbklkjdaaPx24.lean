/- What Go functions compute, and their walks: written by a program of this session (a turned copy of the kit's print) out of the translation. -/
import Derived.Test.YtkindfbbklkjdaaPx0
import Derived.Test.YtkindfbbklkjdaaPx16
namespace Go.Proofs.Ytkindfbbklkjdaa.P
open Go.RowKit Go.Proofs.YtkindfbbklkjdaaW.PrintWords Go.Proofs.YtkindfbbklkjdaaW.PrintLast Go.Proofs.YtkindfbbklkjdaaW.PrintMore
attribute [local go_sem] max2_int min2_int max_two min_two max_three min_three max_four min_four   -- for this text's walks alone
set_option linter.unusedVariables false
set_option linter.unusedSimpArgs false

/-! ### backreachref06_Check: function 20 -/
def backreachref06_Check.l0 : Nat → List (S32) → Int → Option (Int × Int)
  | 0, _, _ => none
  | k + 1, x0, x4 => if x4 < (x0.length : Int) then (if x4 = 65536 then (some (10, x4)) else (if 0 ≤ x4 then (if x4 ≤ (x0.length : Int) then ((backreachref06_Right.f k ((rd_T32 x0 x4).f0) ((rd_T32 x0 x4).f1) ((rd_T32 x0 x4).f2) ((rd_T32 x0 x4).f3.f0) ((rd_T32 x0 x4).f3.f1) ((rd_T32 x0 x4).f3.f2) (x0.take (x4 : Int).toNat)).bind fun t202 => (if t202 = 0 then (backreachref06_Check.l0 k x0 (wrap64 (x4 + 1))) else (some (t202, x4)))) else (none)) else (none))) else (some (0, 0))
def backreachref06_Check.f (k : Nat) (l0 : List (S32)) : Option (Int × Int) := if (l0.length : Int) = 0 then (some (11, 0)) else (backreachref06_Check.l0 k l0 0)
theorem backreachref06_Check.mono_l : ∀ k, (∀ y0 y1, LeO (backreachref06_Check.l0 k y0 y1) (backreachref06_Check.l0 (k + 1) y0 y1))
  | 0 => fun _ _ r h => by simp [backreachref06_Check.l0] at h
  | k + 1 => by
    have ih0 := backreachref06_Check.mono_l k
    · intro y0 y1
      unfold backreachref06_Check.l0
      repeat' first
      | (with_reducible exact ih0 _ _)
      | (with_reducible exact backreachref06_Right.mono _ _ _ _ _ _ _ _)
      | (with_reducible exact LeO.refl _)
      | (with_reducible exact LeO.none _)
      | (with_reducible refine LeO.ite ?_ ?_)
      | (with_reducible refine LeO.bind ?_ (fun _ => ?_))
      | exact ih0 _ _
      | exact backreachref06_Right.mono _ _ _ _ _ _ _ _
      | exact LeO.none _
      | refine LeO.ite ?_ ?_
      | refine LeO.bind ?_ (fun _ => ?_)
theorem backreachref06_Check.mono : ∀ a0 k, LeO (backreachref06_Check.f k a0) (backreachref06_Check.f (k + 1) a0) := by
  intro a0 k
  have ih0 := backreachref06_Check.mono_l k
  unfold backreachref06_Check.f
  repeat' first
      | (with_reducible exact ih0 _ _)
      | (with_reducible exact backreachref06_Right.mono _ _ _ _ _ _ _ _)
      | (with_reducible exact LeO.refl _)
      | (with_reducible exact LeO.none _)
      | (with_reducible refine LeO.ite ?_ ?_)
      | (with_reducible refine LeO.bind ?_ (fun _ => ?_))
      | exact ih0 _ _
      | exact backreachref06_Right.mono _ _ _ _ _ _ _ _
      | exact LeO.none _
      | refine LeO.ite ?_ ?_
      | refine LeO.bind ?_ (fun _ => ?_)
def backreachref06_Check.T8 : Bool × List (List Nat × List Nat) := (true, [([], []), ([], []), ([0, 1], [0, 1]), ([2], [2]), ([], []), ([], []), ([4, 5], [4, 5]), ([3, 6], [3, 6]), ([7, 7, 0, 1, 2, 3, 4, 5, 6, 7], [7])])
def backreachref06_Check.B8 : List Nat := [0, 0, 3, 7, 0, 0, 48, 127, 255]
theorem backreachref06_Check.tab8 : rtab .any (opsOf Try.f20 8) = backreachref06_Check.T8 := by kernel_rfl
theorem backreachref06_Check.bits8 : waitsOk backreachref06_Check.T8.2 backreachref06_Check.B8 = true := by kernel_rfl
set_option maxHeartbeats 8000000 in
set_option maxRecDepth 100000 in
theorem backreachref06_Check.calls (k : Nat) (A0 : Option Addr) (c0 : Nat) (l0 : List (S32)) (r1 : Int) (r2 : Int) (w : World) (hr0 : Kd.C k32 w A0 l0.length l0) (hc0 : l0.length ≤ c0) (h : backreachref06_Check.f k l0 = some (r1, r2)) :
    Calls Try.prog 20 #[.slice A0 l0.length c0] w fun e w' => e = .returned (.tuple #[.int .i64 r1, .int .i64 r2]) ∧ Below w.heap.size w w' := by
  have hu32 := Try.underlying32
  have HR0 := Aside0.mk hr0
  have HC0 := Aside0.mk hc0
  clear hr0 hc0
  have HB := Aside0.mk (Below.refl w.heap.size w)
  have H : (if (l0.length : Int) = 0 then (some (11, 0)) else (backreachref06_Check.l0 k l0 0)) = some (r1, r2) := h
  clear h
  by_cases c2 : (l0.length : Int) = 0
  · rw [if_pos c2] at H
    have c2b0 : ((l0.length : Int) == 0) = true := beq_iff_eq.mpr c2
    have c2b1 : ((l0.length : Int) != 0) = false := bne_eq_false_iff_eq.mpr c2
    clear c2
    simp only [Option.some.injEq, Prod.mk.injEq] at H
    obtain ⟨rfl, rfl⟩ := H
    go_enter Try.func20, Try.ntmps20
    go_wp2
    go_ret2
    exact ⟨by first | rfl | (simp [errW_none, errW_some] <;> rfl) | (simp [*, errW_none, errW_some] <;> rfl), by repeat (first | (with_reducible first | exact HB.out | apply below_alloc | apply pw_below_drewN | apply below_drew1) | exact HB.out)⟩
  · rw [if_neg c2] at H
    have c2b0 : ((l0.length : Int) == 0) = false := beq_eq_false_iff_ne.mpr c2
    have c2b1 : ((l0.length : Int) != 0) = true := bne_iff_ne.mpr c2
    have c2b2 : ¬ (l0 = []) := fun h_ => c2 (by rw [h_]; rfl)
    have H' := Aside0.mk H
    clear H
    go_enter Try.func20, Try.ntmps20
    go_wp2
    go_loopg [4] k (fun kq v4 w' => ∃ (x4_1 : Int), v4 = .int .i64 x4_1 ∧ Aside0 (backreachref06_Check.l0 kq l0 x4_1 = some (r1, r2)) ∧ Aside0 (kq ≤ k) ∧ Aside0 (Below w.heap.size w w'))
    case atStart => exact ⟨(0), (by first | rfl | (simp; done) | (simp [*]; done)), H', ⟨Nat.le_refl _⟩, ⟨by repeat (first | (with_reducible first | exact HB.out | apply below_alloc | apply pw_below_drewN | apply below_drew1) | exact HB.out)⟩⟩
    case round =>
      clear H'
      try clear c2
      try clear c2b0
      try clear c2b1
      try clear c2b2
      try clear p2
      obtain ⟨x4_1, rfl, HA, HK1, HB⟩ := hrel
      cases gk with
      | zero => exact absurd HA.out (by simp [backreachref06_Check.l0])
      | succ k1 =>
        have H := HA.out
        clear HA
        simp only [backreachref06_Check.l0] at H
        by_cases c3 : x4_1 < (l0.length : Int)
        · rw [if_pos c3] at H
          have c3b0 : decide (x4_1 < (l0.length : Int)) = true := decide_eq_true c3
          clear c3
          by_cases c4 : x4_1 = 65536
          · rw [if_pos c4] at H
            have c4b0 : (x4_1 == 65536) = true := beq_iff_eq.mpr c4
            have c4b1 : (x4_1 != 65536) = false := bne_eq_false_iff_eq.mpr c4
            clear c4
            simp only [Option.some.injEq, Prod.mk.injEq] at H
            obtain ⟨rfl, rfl⟩ := H
            go_wp2
            go_ret2
            exact ⟨by first | rfl | (simp [errW_none, errW_some] <;> rfl) | (simp [*, errW_none, errW_some] <;> rfl), by repeat (first | (with_reducible first | exact HB.out | apply below_alloc | apply pw_below_drewN | apply below_drew1) | exact HB.out)⟩
          · rw [if_neg c4] at H
            have c4b0 : (x4_1 == 65536) = false := beq_eq_false_iff_ne.mpr c4
            have c4b1 : (x4_1 != 65536) = true := bne_iff_ne.mpr c4
            by_cases c5 : 0 ≤ x4_1
            · rw [if_pos c5] at H
              have c5b0 : decide (0 ≤ x4_1) = true := decide_eq_true c5
              clear c5
              have c6b0 := eq_true (of_decide_eq_true (by first | (with_reducible assumption) | assumption) : 0 ≤ x4_1)
              by_cases c7 : x4_1 ≤ (l0.length : Int)
              · rw [if_pos c7] at H
                have c7b0 := eq_true c7
                have c7b1 : decide (x4_1 ≤ (l0.length : Int)) = true := decide_eq_true c7
                clear c7
                obtain ⟨y198, hy198⟩ : ∃ y_ : List (S32), y_ = (l0.take (x4_1 : Int).toNat) := ⟨_, rfl⟩
                replace H : ((backreachref06_Right.f k1 ((rd_T32 l0 x4_1).f0) ((rd_T32 l0 x4_1).f1) ((rd_T32 l0 x4_1).f2) ((rd_T32 l0 x4_1).f3.f0) ((rd_T32 l0 x4_1).f3.f1) ((rd_T32 l0 x4_1).f3.f2) y198).bind fun t202 => (if t202 = 0 then (backreachref06_Check.l0 k1 l0 (wrap64 (x4_1 + 1))) else (some (t202, x4_1)))) = some (r1, r2) := by first | (rw [hy198]; with_reducible exact H) | (have H2_ := (Option.bind_some _ _).symm.trans H; rw [hy198]; with_reducible exact H2_) | (have H2_ := (Option.bind_some _ _).symm.trans H; with_reducible exact H2_) | with_reducible exact H | (rw [hy198]; exact H) | exact H
                have Ny198 := Aside0.mk hy198
                clear hy198
                replace H := Option.bind_eq_some_iff.mp H
                obtain ⟨t202, A80, H⟩ := H
                replace H : (if t202 = 0 then (backreachref06_Check.l0 k1 l0 (wrap64 (x4_1 + 1))) else (some (t202, x4_1))) = some (r1, r2) := H
                have A8 := Aside0.mk A80
                clear A80
                by_cases c9 : t202 = 0
                · rw [if_pos c9] at H
                  have c9b0 : (t202 == 0) = true := beq_iff_eq.mpr c9
                  have c9b1 : (t202 != 0) = false := bne_eq_false_iff_eq.mpr c9
                  clear c9
                  have H' := Aside0.mk H
                  clear H
                  try go_wp2
                  have n0_ := Aside0.mk (below_drew1 HB.out)
                  clear HB
                  have HB := n0_
                  clear n0_
                  have p197 : 0 ≤ (x4_1 : Int) := of_decide_eq_true (by first | (with_reducible assumption) | assumption)
                  have q197 : x4_1 < (l0.length : Int) := of_decide_eq_true (by first | (with_reducible assumption) | assumption)
                  obtain ⟨ad197, e197, hx197_0, hx197_1, hx197_2, hx197_3, hx197_4, hx197_5⟩ := at_T32 HR0.out x4_1 p197 q197
                  have hw197_5 := hx197_5
                  have hw197_4 := hx197_4
                  have hw197_3 := hx197_3
                  have hw197_2 := hx197_2
                  have hw197_1 := hx197_1
                  have hw197_0 := hx197_0
                  cases e197
                  replace hx197_0 := (HB.out.cell (World.block_lt_of_cell? w _ hx197_0)).trans hx197_0
                  replace hx197_1 := (HB.out.cell (World.block_lt_of_cell? w _ hx197_1)).trans hx197_1
                  replace hx197_2 := (HB.out.cell (World.block_lt_of_cell? w _ hx197_2)).trans hx197_2
                  replace hx197_3 := (HB.out.cell (World.block_lt_of_cell? w _ hx197_3)).trans hx197_3
                  replace hx197_4 := (HB.out.cell (World.block_lt_of_cell? w _ hx197_4)).trans hx197_4
                  replace hx197_5 := (HB.out.cell (World.block_lt_of_cell? w _ hx197_5)).trans hx197_5
                  replace p197 := eq_true p197
                  replace q197 := eq_true q197
                  have q11 : (x4_1 : Int) ≤ ((l0.length : Int) : Int) := of_decide_eq_true (by first | (with_reducible assumption) | assumption)
                  obtain ⟨i011, hi011, _, hsz11, _⟩ := info_parts info32
                  have hroom11 : l0.length ≤ c0 := HC0.out
                  have hC11 : Kd.C k32 _ (some ad197) l0.length l0 := HR0.out
                  have hcut11 := cut_to (P := Try.prog) 22 32 .i64 Try.underlying22 hi011 (some ad197) l0.length c0 x4_1 (of_decide_eq_true (by first | (with_reducible assumption) | assumption)) q11 hroom11
                  have hr11 := Kd.C_take (m := (x4_1 : Int).toNat) hC11 (by omega)
                  have hy11 : y198.length = (x4_1 : Int).toNat := (by rw [Ny198.out, List.length_take]; omega)
                  rw [← Ny198.out] at hr11
                  rw [← hy11] at hcut11
                  have HR201 := Aside0.mk hr11
                  have HC201 := Aside0.mk (show y198.length ≤ c0 from by omega)
                  clear hr11 hC11 hroom11 hi011 hsz11
                  have KY11 := Aside0.mk hy11
                  clear hy11
                  replace q11 := eq_true q11
                  refine start_ (n := 9) (S := fun w' => w'.cell? (ad197.add ((x4_1).toNat * 6)) = some (.int .i64 ((rd_T32 l0 x4_1).f0)) ∧ w'.cell? ⟨(ad197.add ((x4_1).toNat * 6)).block, (ad197.add ((x4_1).toNat * 6)).off + 1, none⟩ = some (.int .i64 ((rd_T32 l0 x4_1).f1)) ∧ w'.cell? ⟨(ad197.add ((x4_1).toNat * 6)).block, (ad197.add ((x4_1).toNat * 6)).off + 2, none⟩ = some (.int .u64 ((rd_T32 l0 x4_1).f2)) ∧ w'.cell? ⟨(ad197.add ((x4_1).toNat * 6)).block, (ad197.add ((x4_1).toNat * 6)).off + 3, none⟩ = some (.int .i64 ((rd_T32 l0 x4_1).f3.f0)) ∧ w'.cell? ⟨(ad197.add ((x4_1).toNat * 6)).block, (ad197.add ((x4_1).toNat * 6)).off + 4, none⟩ = some (.int .i64 ((rd_T32 l0 x4_1).f3.f1)) ∧ w'.cell? ⟨(ad197.add ((x4_1).toNat * 6)).block, (ad197.add ((x4_1).toNat * 6)).off + 5, none⟩ = some (.int .i64 ((rd_T32 l0 x4_1).f3.f2))) (ds := []) #[false, false, false, false, false, false, false, false, false] (by kernel_rfl) rfl rfl ⟨((HB.out.cell (World.block_lt_of_cell? w _ hw197_0)).trans hw197_0), ((HB.out.cell (World.block_lt_of_cell? w _ hw197_1)).trans hw197_1), ((HB.out.cell (World.block_lt_of_cell? w _ hw197_2)).trans hw197_2), ((HB.out.cell (World.block_lt_of_cell? w _ hw197_3)).trans hw197_3), ((HB.out.cell (World.block_lt_of_cell? w _ hw197_4)).trans hw197_4), ((HB.out.cell (World.block_lt_of_cell? w _ hw197_5)).trans hw197_5)⟩ (fun hHeld => ?_); refine with_tabW backreachref06_Check.tab8 backreachref06_Check.bits8 (fun HT_ HW_ => ?_)
                  generalize wr.drew = w10 at HB HR201 hx197_0 hx197_1 hx197_2 hx197_3 hx197_4 hx197_5 hHeld ⊢
                  refine pure_ (i := 0) (N := some 18) (v := ?_) (a' := ?_) #[true, false, false, false, false, false, false, false, false] rfl rfl (any_of HT_.out (by kernel_rfl)) (fun _ _ _ h => h) (Or.inl ⟨by rfl, ?_⟩) ?_ ?_
                  rotate_left
                  · intro w'
                    go_simp
                    with_reducible rfl
                  rotate_left
                  · simp only [Act.put, List.setIfInBounds_toArray, List.set_cons_zero, List.set_cons_succ, i64_w, i32_w]
                    rfl
                  refine pure_ (i := 1) (N := some 19) (v := ?_) (a' := ?_) #[true, true, false, false, false, false, false, false, false] rfl rfl (any_of HT_.out (by kernel_rfl)) (fun _ _ _ h => h) (Or.inl ⟨by rfl, ?_⟩) ?_ ?_
                  rotate_left
                  · intro w'
                    go_simp
                    with_reducible rfl
                  rotate_left
                  · simp only [Act.put, List.setIfInBounds_toArray, List.set_cons_zero, List.set_cons_succ, i64_w, i32_w]
                    rfl
                  refine pure_ (i := 2) (N := some 20) (v := ?_) (a' := ?_) #[true, true, true, false, false, false, false, false, false] rfl rfl (any_of HT_.out (by kernel_rfl)) (fun _ _ _ h => h) (Or.inl ⟨by rfl, ?_⟩) ?_ ?_
                  rotate_left
                  · intro w'
                    go_simp
                    with_reducible rfl
                  rotate_left
                  · simp only [Act.put, List.setIfInBounds_toArray, List.set_cons_zero, List.set_cons_succ, i64_w, i32_w]
                    rfl
                  refine pure_ (i := 4) (N := some 22) (v := ?_) (a' := ?_) #[true, true, true, false, true, false, false, false, false] rfl rfl (any_of HT_.out (by kernel_rfl)) (fun _ _ _ h => h) (Or.inl ⟨by rfl, ?_⟩) ?_ ?_
                  rotate_left
                  · intro w'
                    go_simp
                    with_reducible rfl
                  rotate_left
                  · simp only [Act.put, List.setIfInBounds_toArray, List.set_cons_zero, List.set_cons_succ, i64_w, i32_w]
                    rfl
                  refine pure_ (i := 5) (N := some 23) (v := ?_) (a' := ?_) #[true, true, true, false, true, true, false, false, false] rfl rfl (any_of HT_.out (by kernel_rfl)) (fun _ _ _ h => h) (Or.inl ⟨by rfl, ?_⟩) ?_ ?_
                  rotate_left
                  · intro w'
                    go_simp
                    with_reducible rfl
                  rotate_left
                  · simp only [Act.put, List.setIfInBounds_toArray, List.set_cons_zero, List.set_cons_succ, i64_w, i32_w]
                    rfl
                  refine pure_ (i := 6) (N := some 24) (v := ?_) (a' := ?_) #[true, true, true, false, true, true, true, false, false] rfl rfl (any_of HT_.out (by kernel_rfl)) (fun _ _ _ h => h) (Or.inl ⟨by rfl, ?_⟩) ?_ ?_
                  rotate_left
                  · intro w'
                    go_simp
                    with_reducible rfl
                  rotate_left
                  · simp only [Act.put, List.setIfInBounds_toArray, List.set_cons_zero, List.set_cons_succ, i64_w, i32_w]
                    rfl
                  refine take_ (i := 3) (N := some 21) (v := ?_) (a' := ?_) #[true, true, true, true, true, true, true, false, false] rfl rfl (take_ofW HT_.out HW_.out (by kernel_rfl)) (fun _ _ _ h => h) (Or.inl ⟨by rfl, ?_⟩) hHeld ?_ ?_
                  rotate_left
                  · rintro w' ⟨s0, s1, s2, s3, s4, s5⟩
                    go_simp
                    with_reducible rfl
                  rotate_left
                  · simp only [Act.put, List.setIfInBounds_toArray, List.set_cons_zero, List.set_cons_succ, i64_w, i32_w]
                    rfl
                  refine one_ (i := 7) (N := some 25) #[true, true, true, true, true, true, true, true, false] rfl rfl (one_of HT_.out (by kernel_rfl)) (by decide) (fun K hK => ?_)
                  refine goes_ Try.func28 (by kernel_rfl) rfl #[.agg #[.int .i64 ((rd_T32 l0 x4_1).f0), .int .i64 ((rd_T32 l0 x4_1).f1), .int .u64 ((rd_T32 l0 x4_1).f2), .int .i64 ((rd_T32 l0 x4_1).f3.f0), .int .i64 ((rd_T32 l0 x4_1).f3.f1), .int .i64 ((rd_T32 l0 x4_1).f3.f2)], .slice (some ad197) y198.length c0] (by rfl) rfl rfl (by (try simp only [List.map_toArray, List.map_cons, List.map_nil]); first | done | rfl | (simp only [List.length_drop, List.length_take]; rfl)) ?_
                  with_reducible refine (backreachref06_Right.calls k1 ((rd_T32 l0 x4_1).f0) ((rd_T32 l0 x4_1).f1) ((rd_T32 l0 x4_1).f2) ((rd_T32 l0 x4_1).f3.f0) ((rd_T32 l0 x4_1).f3.f1) ((rd_T32 l0 x4_1).f3.f2) _ _ y198 t202 _ ?side1 ?side2 A8.out).mono ?_
                  (case side1 => repeat (first | exact (Kd.C_below HR201.out HB.out) | (with_reducible refine Kd.C_alloc ?_ _) | (with_reducible refine Kd.C_drewN ?_ _) | (with_reducible refine Kd.C_drew ?_)))
                  (case side2 => exact HC201.out)
                  rintro e w12 ⟨rfl, hb⟩
                  refine ⟨_, rfl, ?_⟩
                  have n0_ := Aside0.mk (below_step (by repeat (first | (with_reducible first | exact HB.out | apply below_alloc | apply pw_below_drewN | apply below_drew1) | exact HB.out)) hb)
                  clear HB
                  have HB := n0_
                  clear n0_
                  (try clear hb)
                  (try clear hb2)
                  (try clear hk)
                  (try clear hi)
                  refine hK.out _ _ ⟨((HB.out.cell (World.block_lt_of_cell? w _ hw197_0)).trans hw197_0), ((HB.out.cell (World.block_lt_of_cell? w _ hw197_1)).trans hw197_1), ((HB.out.cell (World.block_lt_of_cell? w _ hw197_2)).trans hw197_2), ((HB.out.cell (World.block_lt_of_cell? w _ hw197_3)).trans hw197_3), ((HB.out.cell (World.block_lt_of_cell? w _ hw197_4)).trans hw197_4), ((HB.out.cell (World.block_lt_of_cell? w _ hw197_5)).trans hw197_5)⟩ (fun hHeld => ?_)
                  clear hK K
                  refine norm_ (a' := ?_) ?_ ?_
                  rotate_left
                  · show Act.put _ (some 25) _ = _
                    simp only [Act.put, List.setIfInBounds_toArray, List.set_cons_zero, List.set_cons_succ, i64_w, i32_w]
                    rfl
                  refine pure_ (i := 8) (N := some 5) (v := ?_) (a' := ?_) #[true, true, true, true, true, true, true, true, true] rfl rfl (any_of HT_.out (by kernel_rfl)) (fun _ _ _ h => h) (Or.inl ⟨by rfl, ?_⟩) ?_ ?_
                  rotate_left
                  · intro w'
                    go_simp
                    with_reducible rfl
                  rotate_left
                  · simp only [Act.put, List.setIfInBounds_toArray, List.set_cons_zero, List.set_cons_succ, i64_w, i32_w]
                    rfl
                  refine done_ (done_of HT_.out (by kernel_rfl)) ?_
                  try go_wp2
                  go_roundg k1
                  case measure => have := HK1.out; omega
                  case rel => exact ⟨(wrap64 (x4_1 + 1)), (by first | rfl | (simp; done) | (simp [*]; done)), H', ⟨by have := HK1.out; omega⟩, ⟨by repeat (first | (with_reducible first | exact HB.out | apply below_alloc | apply pw_below_drewN | apply below_drew1) | exact HB.out)⟩⟩
                · rw [if_neg c9] at H
                  have c9b0 : (t202 == 0) = false := beq_eq_false_iff_ne.mpr c9
                  have c9b1 : (t202 != 0) = true := bne_iff_ne.mpr c9
                  simp only [Option.some.injEq, Prod.mk.injEq] at H
                  obtain ⟨rfl, rfl⟩ := H
                  try go_wp2
                  have n0_ := Aside0.mk (below_drew1 HB.out)
                  clear HB
                  have HB := n0_
                  clear n0_
                  have p197 : 0 ≤ (x4_1 : Int) := of_decide_eq_true (by first | (with_reducible assumption) | assumption)
                  have q197 : x4_1 < (l0.length : Int) := of_decide_eq_true (by first | (with_reducible assumption) | assumption)
                  obtain ⟨ad197, e197, hx197_0, hx197_1, hx197_2, hx197_3, hx197_4, hx197_5⟩ := at_T32 HR0.out x4_1 p197 q197
                  have hw197_5 := hx197_5
                  have hw197_4 := hx197_4
                  have hw197_3 := hx197_3
                  have hw197_2 := hx197_2
                  have hw197_1 := hx197_1
                  have hw197_0 := hx197_0
                  cases e197
                  replace hx197_0 := (HB.out.cell (World.block_lt_of_cell? w _ hx197_0)).trans hx197_0
                  replace hx197_1 := (HB.out.cell (World.block_lt_of_cell? w _ hx197_1)).trans hx197_1
                  replace hx197_2 := (HB.out.cell (World.block_lt_of_cell? w _ hx197_2)).trans hx197_2
                  replace hx197_3 := (HB.out.cell (World.block_lt_of_cell? w _ hx197_3)).trans hx197_3
                  replace hx197_4 := (HB.out.cell (World.block_lt_of_cell? w _ hx197_4)).trans hx197_4
                  replace hx197_5 := (HB.out.cell (World.block_lt_of_cell? w _ hx197_5)).trans hx197_5
                  replace p197 := eq_true p197
                  replace q197 := eq_true q197
                  have q14 : (x4_1 : Int) ≤ ((l0.length : Int) : Int) := of_decide_eq_true (by first | (with_reducible assumption) | assumption)
                  obtain ⟨i014, hi014, _, hsz14, _⟩ := info_parts info32
                  have hroom14 : l0.length ≤ c0 := HC0.out
                  have hC14 : Kd.C k32 _ (some ad197) l0.length l0 := HR0.out
                  have hcut14 := cut_to (P := Try.prog) 22 32 .i64 Try.underlying22 hi014 (some ad197) l0.length c0 x4_1 (of_decide_eq_true (by first | (with_reducible assumption) | assumption)) q14 hroom14
                  have hr14 := Kd.C_take (m := (x4_1 : Int).toNat) hC14 (by omega)
                  have hy14 : y198.length = (x4_1 : Int).toNat := (by rw [Ny198.out, List.length_take]; omega)
                  rw [← Ny198.out] at hr14
                  rw [← hy14] at hcut14
                  have HR201 := Aside0.mk hr14
                  have HC201 := Aside0.mk (show y198.length ≤ c0 from by omega)
                  clear hr14 hC14 hroom14 hi014 hsz14
                  have KY14 := Aside0.mk hy14
                  clear hy14
                  replace q14 := eq_true q14
                  refine start_ (n := 9) (S := fun w' => w'.cell? (ad197.add ((x4_1).toNat * 6)) = some (.int .i64 ((rd_T32 l0 x4_1).f0)) ∧ w'.cell? ⟨(ad197.add ((x4_1).toNat * 6)).block, (ad197.add ((x4_1).toNat * 6)).off + 1, none⟩ = some (.int .i64 ((rd_T32 l0 x4_1).f1)) ∧ w'.cell? ⟨(ad197.add ((x4_1).toNat * 6)).block, (ad197.add ((x4_1).toNat * 6)).off + 2, none⟩ = some (.int .u64 ((rd_T32 l0 x4_1).f2)) ∧ w'.cell? ⟨(ad197.add ((x4_1).toNat * 6)).block, (ad197.add ((x4_1).toNat * 6)).off + 3, none⟩ = some (.int .i64 ((rd_T32 l0 x4_1).f3.f0)) ∧ w'.cell? ⟨(ad197.add ((x4_1).toNat * 6)).block, (ad197.add ((x4_1).toNat * 6)).off + 4, none⟩ = some (.int .i64 ((rd_T32 l0 x4_1).f3.f1)) ∧ w'.cell? ⟨(ad197.add ((x4_1).toNat * 6)).block, (ad197.add ((x4_1).toNat * 6)).off + 5, none⟩ = some (.int .i64 ((rd_T32 l0 x4_1).f3.f2))) (ds := []) #[false, false, false, false, false, false, false, false, false] (by kernel_rfl) rfl rfl ⟨((HB.out.cell (World.block_lt_of_cell? w _ hw197_0)).trans hw197_0), ((HB.out.cell (World.block_lt_of_cell? w _ hw197_1)).trans hw197_1), ((HB.out.cell (World.block_lt_of_cell? w _ hw197_2)).trans hw197_2), ((HB.out.cell (World.block_lt_of_cell? w _ hw197_3)).trans hw197_3), ((HB.out.cell (World.block_lt_of_cell? w _ hw197_4)).trans hw197_4), ((HB.out.cell (World.block_lt_of_cell? w _ hw197_5)).trans hw197_5)⟩ (fun hHeld => ?_); refine with_tabW backreachref06_Check.tab8 backreachref06_Check.bits8 (fun HT_ HW_ => ?_)
                  generalize wr.drew = w13 at HB HR201 hx197_0 hx197_1 hx197_2 hx197_3 hx197_4 hx197_5 hHeld ⊢
                  refine pure_ (i := 0) (N := some 18) (v := ?_) (a' := ?_) #[true, false, false, false, false, false, false, false, false] rfl rfl (any_of HT_.out (by kernel_rfl)) (fun _ _ _ h => h) (Or.inl ⟨by rfl, ?_⟩) ?_ ?_
                  rotate_left
                  · intro w'
                    go_simp
                    with_reducible rfl
                  rotate_left
                  · simp only [Act.put, List.setIfInBounds_toArray, List.set_cons_zero, List.set_cons_succ, i64_w, i32_w]
                    rfl
                  refine pure_ (i := 1) (N := some 19) (v := ?_) (a' := ?_) #[true, true, false, false, false, false, false, false, false] rfl rfl (any_of HT_.out (by kernel_rfl)) (fun _ _ _ h => h) (Or.inl ⟨by rfl, ?_⟩) ?_ ?_
                  rotate_left
                  · intro w'
                    go_simp
                    with_reducible rfl
                  rotate_left
                  · simp only [Act.put, List.setIfInBounds_toArray, List.set_cons_zero, List.set_cons_succ, i64_w, i32_w]
                    rfl
                  refine pure_ (i := 2) (N := some 20) (v := ?_) (a' := ?_) #[true, true, true, false, false, false, false, false, false] rfl rfl (any_of HT_.out (by kernel_rfl)) (fun _ _ _ h => h) (Or.inl ⟨by rfl, ?_⟩) ?_ ?_
                  rotate_left
                  · intro w'
                    go_simp
                    with_reducible rfl
                  rotate_left
                  · simp only [Act.put, List.setIfInBounds_toArray, List.set_cons_zero, List.set_cons_succ, i64_w, i32_w]
                    rfl
                  refine pure_ (i := 4) (N := some 22) (v := ?_) (a' := ?_) #[true, true, true, false, true, false, false, false, false] rfl rfl (any_of HT_.out (by kernel_rfl)) (fun _ _ _ h => h) (Or.inl ⟨by rfl, ?_⟩) ?_ ?_
                  rotate_left
                  · intro w'
                    go_simp
                    with_reducible rfl
                  rotate_left
                  · simp only [Act.put, List.setIfInBounds_toArray, List.set_cons_zero, List.set_cons_succ, i64_w, i32_w]
                    rfl
                  refine pure_ (i := 5) (N := some 23) (v := ?_) (a' := ?_) #[true, true, true, false, true, true, false, false, false] rfl rfl (any_of HT_.out (by kernel_rfl)) (fun _ _ _ h => h) (Or.inl ⟨by rfl, ?_⟩) ?_ ?_
                  rotate_left
                  · intro w'
                    go_simp
                    with_reducible rfl
                  rotate_left
                  · simp only [Act.put, List.setIfInBounds_toArray, List.set_cons_zero, List.set_cons_succ, i64_w, i32_w]
                    rfl
                  refine pure_ (i := 6) (N := some 24) (v := ?_) (a' := ?_) #[true, true, true, false, true, true, true, false, false] rfl rfl (any_of HT_.out (by kernel_rfl)) (fun _ _ _ h => h) (Or.inl ⟨by rfl, ?_⟩) ?_ ?_
                  rotate_left
                  · intro w'
                    go_simp
                    with_reducible rfl
                  rotate_left
                  · simp only [Act.put, List.setIfInBounds_toArray, List.set_cons_zero, List.set_cons_succ, i64_w, i32_w]
                    rfl
                  refine take_ (i := 3) (N := some 21) (v := ?_) (a' := ?_) #[true, true, true, true, true, true, true, false, false] rfl rfl (take_ofW HT_.out HW_.out (by kernel_rfl)) (fun _ _ _ h => h) (Or.inl ⟨by rfl, ?_⟩) hHeld ?_ ?_
                  rotate_left
                  · rintro w' ⟨s0, s1, s2, s3, s4, s5⟩
                    go_simp
                    with_reducible rfl
                  rotate_left
                  · simp only [Act.put, List.setIfInBounds_toArray, List.set_cons_zero, List.set_cons_succ, i64_w, i32_w]
                    rfl
                  refine one_ (i := 7) (N := some 25) #[true, true, true, true, true, true, true, true, false] rfl rfl (one_of HT_.out (by kernel_rfl)) (by decide) (fun K hK => ?_)
                  refine goes_ Try.func28 (by kernel_rfl) rfl #[.agg #[.int .i64 ((rd_T32 l0 x4_1).f0), .int .i64 ((rd_T32 l0 x4_1).f1), .int .u64 ((rd_T32 l0 x4_1).f2), .int .i64 ((rd_T32 l0 x4_1).f3.f0), .int .i64 ((rd_T32 l0 x4_1).f3.f1), .int .i64 ((rd_T32 l0 x4_1).f3.f2)], .slice (some ad197) y198.length c0] (by rfl) rfl rfl (by (try simp only [List.map_toArray, List.map_cons, List.map_nil]); first | done | rfl | (simp only [List.length_drop, List.length_take]; rfl)) ?_
                  with_reducible refine (backreachref06_Right.calls k1 ((rd_T32 l0 x4_1).f0) ((rd_T32 l0 x4_1).f1) ((rd_T32 l0 x4_1).f2) ((rd_T32 l0 x4_1).f3.f0) ((rd_T32 l0 x4_1).f3.f1) ((rd_T32 l0 x4_1).f3.f2) _ _ y198 t202 _ ?side1 ?side2 A8.out).mono ?_
                  (case side1 => repeat (first | exact (Kd.C_below HR201.out HB.out) | (with_reducible refine Kd.C_alloc ?_ _) | (with_reducible refine Kd.C_drewN ?_ _) | (with_reducible refine Kd.C_drew ?_)))
                  (case side2 => exact HC201.out)
                  rintro e w15 ⟨rfl, hb⟩
                  refine ⟨_, rfl, ?_⟩
                  have n0_ := Aside0.mk (below_step (by repeat (first | (with_reducible first | exact HB.out | apply below_alloc | apply pw_below_drewN | apply below_drew1) | exact HB.out)) hb)
                  clear HB
                  have HB := n0_
                  clear n0_
                  (try clear hb)
                  (try clear hb2)
                  (try clear hk)
                  (try clear hi)
                  refine hK.out _ _ ⟨((HB.out.cell (World.block_lt_of_cell? w _ hw197_0)).trans hw197_0), ((HB.out.cell (World.block_lt_of_cell? w _ hw197_1)).trans hw197_1), ((HB.out.cell (World.block_lt_of_cell? w _ hw197_2)).trans hw197_2), ((HB.out.cell (World.block_lt_of_cell? w _ hw197_3)).trans hw197_3), ((HB.out.cell (World.block_lt_of_cell? w _ hw197_4)).trans hw197_4), ((HB.out.cell (World.block_lt_of_cell? w _ hw197_5)).trans hw197_5)⟩ (fun hHeld => ?_)
                  clear hK K
                  refine norm_ (a' := ?_) ?_ ?_
                  rotate_left
                  · show Act.put _ (some 25) _ = _
                    simp only [Act.put, List.setIfInBounds_toArray, List.set_cons_zero, List.set_cons_succ, i64_w, i32_w]
                    rfl
                  refine pure_ (i := 8) (N := some 5) (v := ?_) (a' := ?_) #[true, true, true, true, true, true, true, true, true] rfl rfl (any_of HT_.out (by kernel_rfl)) (fun _ _ _ h => h) (Or.inl ⟨by rfl, ?_⟩) ?_ ?_
                  rotate_left
                  · intro w'
                    go_simp
                    with_reducible rfl
                  rotate_left
                  · simp only [Act.put, List.setIfInBounds_toArray, List.set_cons_zero, List.set_cons_succ, i64_w, i32_w]
                    rfl
                  refine done_ (done_of HT_.out (by kernel_rfl)) ?_
                  try go_wp2
                  go_ret2
                  exact ⟨by first | rfl | (simp [errW_none, errW_some] <;> rfl) | (simp [*, errW_none, errW_some] <;> rfl), by repeat (first | (with_reducible first | exact HB.out | apply below_alloc | apply pw_below_drewN | apply below_drew1) | exact HB.out)⟩
              · rw [if_neg c7] at H
                exact absurd H (by simp)
            · rw [if_neg c5] at H
              exact absurd H (by simp)
        · rw [if_neg c3] at H
          have c3b0 : decide (x4_1 < (l0.length : Int)) = false := decide_eq_false c3
          clear c3
          simp only [Option.some.injEq, Prod.mk.injEq] at H
          obtain ⟨rfl, rfl⟩ := H
          go_wp2
          go_ret2
          exact ⟨by first | rfl | (simp [errW_none, errW_some] <;> rfl) | (simp [*, errW_none, errW_some] <;> rfl), by repeat (first | (with_reducible first | exact HB.out | apply below_alloc | apply pw_below_drewN | apply below_drew1) | exact HB.out)⟩

end Go.Proofs.Ytkindfbbklkjdaa.P
