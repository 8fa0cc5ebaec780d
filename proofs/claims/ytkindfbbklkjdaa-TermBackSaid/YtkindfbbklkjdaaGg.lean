/- Arena.Term: the walk of the printed variant, turned to the receiver. -/
import Derived.Test.YtkindfbbklkjdaaGf
import Derived.Test.YtkindfbbklkjdaaPx3
import Derived.Test.YtkindfbbklkjdaaPx10
namespace Go.Proofs.Ytkindfbbklkjdaa.P
open Go.RowKit Go.Proofs.YtkindfbbklkjdaaW.PrintWords Go.Proofs.YtkindfbbklkjdaaW.PrintLast Go.Proofs.YtkindfbbklkjdaaW.PrintMore
attribute [local go_sem] max2_int min2_int max_two min_two max_three min_three max_four min_four   -- for this text's walks alone
set_option linter.unusedVariables false
set_option linter.unusedSimpArgs false

/-! ### term_Arena_Term: function 17 -/
mutual
def term_Arena_Term.j0 : Nat → List (S32) → Int → Bool → Option ((List (S32)))
  | 0, _, _, _ => none
  | k + 1, x0, x1, x22 => if x22 = true then (some ([] : List (S32))) else (if 0 ≤ (wrap64 (x1 + 1)) then (if (wrap64 (x1 + 1) : Int).toNat ≤ 281474976710656 then ((some (List.replicate (wrap64 (x1 + 1) : Int).toNat false : List Bool)).bind fun y128 => (if 0 ≤ x1 then (if x1 < (y128.length : Int) then (term_Arena_Term.l0 k x0 x1 (y128.set (x1 : Int).toNat true) x1) else (none)) else (none))) else (none)) else (none))
def term_Arena_Term.l0 : Nat → List (S32) → Int → List Bool → Int → Option ((List (S32)))
  | 0, _, _, _, _ => none
  | k + 1, x0, x1, x5, x6 => if x6 ≥ 0 then (if 0 ≤ x6 then (if x6 < (x5.length : Int) then (if rdOf false x5 x6 = true then (if x6 < (x0.length : Int) then ((term_Kids.f k ((rd_T32 x0 x6).f0)).bind fun t134 => (term_Arena_Term.l1 k x0 x1 x5 x6 t134 0)) else (none)) else (term_Arena_Term.l0 k x0 x1 x5 (wrap64 (x6 - 1)))) else (none)) else (none)) else (if 0 ≤ (wrap64 (x1 + 1)) then (if (wrap64 (x1 + 1) : Int).toNat ≤ 35184372088832 then (term_Arena_Term.l2 k x0 (List.replicate (wrap64 (x1 + 1) : Int).toNat 0) ([] : List (S32)) x5 (x5.length : Int) 0) else (none)) else (none))
def term_Arena_Term.l1 : Nat → List (S32) → Int → List Bool → Int → Int → Int → Option ((List (S32)))
  | 0, _, _, _, _, _, _ => none
  | k + 1, x0, x1, x5, x6, x46, x47 => if x47 < x46 then (if 0 ≤ x6 then (if x6 < (x0.length : Int) then (if x47 = 0 then (if 0 ≤ ((rd_T32 x0 x6).f3.f0) then (if ((rd_T32 x0 x6).f3.f0) < (x5.length : Int) then (term_Arena_Term.l1 k x0 x1 (x5.set (((rd_T32 x0 x6).f3.f0) : Int).toNat true) x6 x46 (wrap64 (x47 + 1))) else (none)) else (none)) else (if x47 = 1 then (if 0 ≤ ((rd_T32 x0 x6).f3.f1) then (if ((rd_T32 x0 x6).f3.f1) < (x5.length : Int) then (term_Arena_Term.l1 k x0 x1 (x5.set (((rd_T32 x0 x6).f3.f1) : Int).toNat true) x6 x46 (wrap64 (x47 + 1))) else (none)) else (none)) else (if x47 = 2 then (if 0 ≤ ((rd_T32 x0 x6).f3.f2) then (if ((rd_T32 x0 x6).f3.f2) < (x5.length : Int) then (term_Arena_Term.l1 k x0 x1 (x5.set (((rd_T32 x0 x6).f3.f2) : Int).toNat true) x6 x46 (wrap64 (x47 + 1))) else (none)) else (none)) else (none)))) else (none)) else (none)) else (term_Arena_Term.l0 k x0 x1 x5 (wrap64 (x6 - 1)))
def term_Arena_Term.l2 : Nat → List (S32) → List Int → List (S32) → List Bool → Int → Int → Option ((List (S32)))
  | 0, _, _, _, _, _, _ => none
  | k + 1, x0, x8, x9, x66, x67, x68 => if x68 < x67 then (if 0 ≤ x68 then (if x68 < (x66.length : Int) then (if rdOf false x66 x68 = true then (if x68 < (x8.length : Int) then ((some (x8.set (x68 : Int).toNat (x9.length : Int) : List Int)).bind fun y143 => (if x68 < (x0.length : Int) then ((term_moved.f k ((rd_T32 x0 x68).f0) ((rd_T32 x0 x68).f1) ((rd_T32 x0 x68).f2) ((rd_T32 x0 x68).f3.f0) ((rd_T32 x0 x68).f3.f1) ((rd_T32 x0 x68).f3.f2) y143).bind fun bt145 => (if x9.length < 2932031007402 then (term_Arena_Term.l2 k x0 y143 (x9 ++ [(⟨bt145.1, bt145.2.1, bt145.2.2.1, (⟨bt145.2.2.2.1, bt145.2.2.2.2.1, bt145.2.2.2.2.2⟩ : S30)⟩ : S32)]) x66 x67 (wrap64 (x68 + 1))) else (none))) else (none))) else (none)) else (term_Arena_Term.l2 k x0 x8 x9 x66 x67 (wrap64 (x68 + 1)))) else (none)) else (none)) else (some x9)
end
def term_Arena_Term.f (k : Nat) (l0 : List (S32)) (a1 : Int) : Option ((List (S32))) := if a1 < 0 then (term_Arena_Term.j0 k l0 a1 true) else (term_Arena_Term.j0 k l0 a1 (decide (a1 ≥ (l0.length : Int))))
theorem term_Arena_Term.mono_l : ∀ k, (∀ y0 y1 y2, LeO (term_Arena_Term.j0 k y0 y1 y2) (term_Arena_Term.j0 (k + 1) y0 y1 y2)) ∧ (∀ y0 y1 y2 y3, LeO (term_Arena_Term.l0 k y0 y1 y2 y3) (term_Arena_Term.l0 (k + 1) y0 y1 y2 y3)) ∧ (∀ y0 y1 y2 y3 y4 y5, LeO (term_Arena_Term.l1 k y0 y1 y2 y3 y4 y5) (term_Arena_Term.l1 (k + 1) y0 y1 y2 y3 y4 y5)) ∧ (∀ y0 y1 y2 y3 y4 y5, LeO (term_Arena_Term.l2 k y0 y1 y2 y3 y4 y5) (term_Arena_Term.l2 (k + 1) y0 y1 y2 y3 y4 y5))
  | 0 => ⟨fun _ _ _ r h => by simp [term_Arena_Term.j0] at h, fun _ _ _ _ r h => by simp [term_Arena_Term.l0] at h, fun _ _ _ _ _ _ r h => by simp [term_Arena_Term.l1] at h, fun _ _ _ _ _ _ r h => by simp [term_Arena_Term.l2] at h⟩
  | k + 1 => by
    obtain ⟨ih0, ih1, ih2, ih3⟩ := term_Arena_Term.mono_l k
    refine ⟨?_, ?_, ?_, ?_⟩
    · intro y0 y1 y2
      unfold term_Arena_Term.j0
      repeat' first
      | (with_reducible exact ih0 _ _ _)
      | (with_reducible exact ih1 _ _ _ _)
      | (with_reducible exact ih2 _ _ _ _ _ _)
      | (with_reducible exact ih3 _ _ _ _ _ _)
      | (with_reducible exact term_Kids.mono _ _)
      | (with_reducible exact term_moved.mono _ _ _ _ _ _ _ _)
      | (with_reducible exact LeO.refl _)
      | (with_reducible exact LeO.none _)
      | (with_reducible refine LeO.ite ?_ ?_)
      | (with_reducible refine LeO.bind ?_ (fun _ => ?_))
      | exact ih0 _ _ _
      | exact ih1 _ _ _ _
      | exact ih2 _ _ _ _ _ _
      | exact ih3 _ _ _ _ _ _
      | exact term_Kids.mono _ _
      | exact term_moved.mono _ _ _ _ _ _ _ _
      | exact LeO.none _
      | refine LeO.ite ?_ ?_
      | refine LeO.bind ?_ (fun _ => ?_)
    · intro y0 y1 y2 y3
      unfold term_Arena_Term.l0
      repeat' first
      | (with_reducible exact ih0 _ _ _)
      | (with_reducible exact ih1 _ _ _ _)
      | (with_reducible exact ih2 _ _ _ _ _ _)
      | (with_reducible exact ih3 _ _ _ _ _ _)
      | (with_reducible exact term_Kids.mono _ _)
      | (with_reducible exact term_moved.mono _ _ _ _ _ _ _ _)
      | (with_reducible exact LeO.refl _)
      | (with_reducible exact LeO.none _)
      | (with_reducible refine LeO.ite ?_ ?_)
      | (with_reducible refine LeO.bind ?_ (fun _ => ?_))
      | exact ih0 _ _ _
      | exact ih1 _ _ _ _
      | exact ih2 _ _ _ _ _ _
      | exact ih3 _ _ _ _ _ _
      | exact term_Kids.mono _ _
      | exact term_moved.mono _ _ _ _ _ _ _ _
      | exact LeO.none _
      | refine LeO.ite ?_ ?_
      | refine LeO.bind ?_ (fun _ => ?_)
    · intro y0 y1 y2 y3 y4 y5
      unfold term_Arena_Term.l1
      repeat' first
      | (with_reducible exact ih0 _ _ _)
      | (with_reducible exact ih1 _ _ _ _)
      | (with_reducible exact ih2 _ _ _ _ _ _)
      | (with_reducible exact ih3 _ _ _ _ _ _)
      | (with_reducible exact term_Kids.mono _ _)
      | (with_reducible exact term_moved.mono _ _ _ _ _ _ _ _)
      | (with_reducible exact LeO.refl _)
      | (with_reducible exact LeO.none _)
      | (with_reducible refine LeO.ite ?_ ?_)
      | (with_reducible refine LeO.bind ?_ (fun _ => ?_))
      | exact ih0 _ _ _
      | exact ih1 _ _ _ _
      | exact ih2 _ _ _ _ _ _
      | exact ih3 _ _ _ _ _ _
      | exact term_Kids.mono _ _
      | exact term_moved.mono _ _ _ _ _ _ _ _
      | exact LeO.none _
      | refine LeO.ite ?_ ?_
      | refine LeO.bind ?_ (fun _ => ?_)
    · intro y0 y1 y2 y3 y4 y5
      unfold term_Arena_Term.l2
      repeat' first
      | (with_reducible exact ih0 _ _ _)
      | (with_reducible exact ih1 _ _ _ _)
      | (with_reducible exact ih2 _ _ _ _ _ _)
      | (with_reducible exact ih3 _ _ _ _ _ _)
      | (with_reducible exact term_Kids.mono _ _)
      | (with_reducible exact term_moved.mono _ _ _ _ _ _ _ _)
      | (with_reducible exact LeO.refl _)
      | (with_reducible exact LeO.none _)
      | (with_reducible refine LeO.ite ?_ ?_)
      | (with_reducible refine LeO.bind ?_ (fun _ => ?_))
      | exact ih0 _ _ _
      | exact ih1 _ _ _ _
      | exact ih2 _ _ _ _ _ _
      | exact ih3 _ _ _ _ _ _
      | exact term_Kids.mono _ _
      | exact term_moved.mono _ _ _ _ _ _ _ _
      | exact LeO.none _
      | refine LeO.ite ?_ ?_
      | refine LeO.bind ?_ (fun _ => ?_)
theorem term_Arena_Term.mono : ∀ a0 a1 k, LeO (term_Arena_Term.f k a0 a1) (term_Arena_Term.f (k + 1) a0 a1) := by
  intro a0 a1 k
  obtain ⟨ih0, ih1, ih2, ih3⟩ := term_Arena_Term.mono_l k
  unfold term_Arena_Term.f
  repeat' first
      | (with_reducible exact ih0 _ _ _)
      | (with_reducible exact ih1 _ _ _ _)
      | (with_reducible exact ih2 _ _ _ _ _ _)
      | (with_reducible exact ih3 _ _ _ _ _ _)
      | (with_reducible exact term_Kids.mono _ _)
      | (with_reducible exact term_moved.mono _ _ _ _ _ _ _ _)
      | (with_reducible exact LeO.refl _)
      | (with_reducible exact LeO.none _)
      | (with_reducible refine LeO.ite ?_ ?_)
      | (with_reducible refine LeO.bind ?_ (fun _ => ?_))
      | exact ih0 _ _ _
      | exact ih1 _ _ _ _
      | exact ih2 _ _ _ _ _ _
      | exact ih3 _ _ _ _ _ _
      | exact term_Kids.mono _ _
      | exact term_moved.mono _ _ _ _ _ _ _ _
      | exact LeO.none _
      | refine LeO.ite ?_ ?_
      | refine LeO.bind ?_ (fun _ => ?_)
set_option maxHeartbeats 8000000 in
set_option maxRecDepth 100000 in
theorem term_Arena_Term.calls_row (k : Nat) (A0 : Option Addr) (c0 : Nat) (l0 : List (S32)) (a1 : Int) (r : List (S32)) (w : World) (g : Nat) (hg0 : w.cell? ⟨g, 0, none⟩ = some (.slice A0 l0.length c0)) (hr0 : Kd.C k32 w A0 l0.length l0) (hc0 : l0.length ≤ c0) (h : term_Arena_Term.f k l0 a1 = some r) :
    Calls Try.prog 17 #[.pointer (some ⟨g, 0, none⟩), .int .i64 a1] w fun e w' => ∃ v0_ : Value, e = .returned (v0_) ∧ Kd.R k32 32 w' w.heap.size (fun _ => True) v0_ r ∧ Below w.heap.size w w' := by
  have hu32 := Try.underlying32
  have HR0 := Aside0.mk hr0
  have HC0 := Aside0.mk hc0
  have HG0 := Aside0.mk hg0
  clear hr0 hc0 hg0
  have HB := Aside0.mk (Below.refl w.heap.size w)
  have H : (if a1 < 0 then (term_Arena_Term.j0 k l0 a1 true) else (term_Arena_Term.j0 k l0 a1 (decide (a1 ≥ (l0.length : Int))))) = some r := h
  clear h
  have HC3 := Aside0.mk H
  clear H
  go_enter Try.func17, Try.ntmps17
  (try clear hcg)
  (try have hcg := (HB.out.cell (World.block_lt_of_cell? w _ HG0.out)).trans HG0.out)
  go_upto_region 1 with (fail)
  (try clear hcg)
  go_cut [22] (fun v22 wc => ∃ (kq : Nat) (x22_2 : Bool), v22 = .bool x22_2 ∧ Aside0 (term_Arena_Term.j0 kq l0 a1 x22_2 = some r) ∧ Aside0 (kq ≤ k) ∧ Aside0 (Below w.heap.size w wc))
  case first =>
    have H := HC3.out
    clear HC3
    by_cases c4 : a1 < 0
    · rw [if_pos c4] at H
      have c4b0 : decide (a1 < 0) = true := decide_eq_true c4
      clear c4
      (first | rw [c4b0] | (simp only [i64_w, i32_w]; rw [c4b0]) | skip)
      have H' := Aside0.mk H
      clear H
      (try clear hcg)
      (try have hcg := (HB.out.cell (World.block_lt_of_cell? w _ HG0.out)).trans HG0.out)
      go_wp2
      go_meet
      case rel => exact ⟨_, (true), (by first | rfl | (simp; done) | (simp [*]; done)), H', ⟨by first | omega | exact Nat.le_refl _⟩, ⟨by repeat (first | (with_reducible first | exact HB.out | apply below_alloc | apply pw_below_drewN | apply below_drew1) | exact HB.out)⟩⟩
    · rw [if_neg c4] at H
      have c4b0 : decide (a1 < 0) = false := decide_eq_false c4
      clear c4
      (first | rw [c4b0] | (simp only [i64_w, i32_w]; rw [c4b0]) | skip)
      have H' := Aside0.mk H
      clear H
      (try clear hcg)
      (try have hcg := (HB.out.cell (World.block_lt_of_cell? w _ HG0.out)).trans HG0.out)
      go_wp2
      go_meet
      case rel => exact ⟨_, (decide (a1 ≥ (l0.length : Int))), (by first | rfl | (simp; done) | (simp [*]; done)), H', ⟨by first | omega | exact Nat.le_refl _⟩, ⟨by repeat (first | (with_reducible first | exact HB.out | apply below_alloc | apply pw_below_drewN | apply below_drew1) | exact HB.out)⟩⟩
  case rest =>
    clear HC3
    try clear c1
    try clear p2
    try clear c4
    try clear c4b0
    obtain ⟨kq, x22_2, rfl, HA, HJ2, HB⟩ := hcut
    cases kq with
    | zero => exact absurd HA.out (by simp [term_Arena_Term.j0])
    | succ kj2 =>
      have H := HA.out
      clear HA
      simp only [term_Arena_Term.j0] at H
      by_cases c5 : x22_2 = true
      · subst c5
        have H1 : (some ([] : List (S32))) = some r := by rw [if_pos rfl] at H; exact H
        clear H
        have H := H1
        clear H1
        obtain rfl := Option.some.inj H
        (try clear hcg)
        (try have hcg := (HB.out.cell (World.block_lt_of_cell? w _ HG0.out)).trans HG0.out)
        go_wp2
        go_ret
        exact ⟨_, by first | rfl | (simp [errW_none, errW_some] <;> rfl) | (simp [*, errW_none, errW_some] <;> rfl), by first | exact Kd.R_nil _ _ _ _ _ | exact Kd.N_nil _ _ _ _ _ | exact Kd.V_nil _ _ _ _ _ | exact Kd.Q_nil _ _ _ _ _ | exact Kd.S_nil _ _ _ _ _, by repeat (first | (with_reducible first | exact HB.out | apply below_alloc | apply pw_below_drewN | apply below_drew1) | exact HB.out)⟩
      · replace c5 := Bool.eq_false_iff.mpr c5
        subst c5
        have H1 : (if 0 ≤ (wrap64 (a1 + 1)) then (if (wrap64 (a1 + 1) : Int).toNat ≤ 281474976710656 then ((some (List.replicate (wrap64 (a1 + 1) : Int).toNat false : List Bool)).bind fun y128 => (if 0 ≤ a1 then (if a1 < (y128.length : Int) then (term_Arena_Term.l0 kj2 l0 a1 (y128.set (a1 : Int).toNat true) a1) else (none)) else (none))) else (none)) else (none)) = some r := by rw [if_neg (show ¬ (false = true) by decide)] at H; exact H
        clear H
        have H := H1
        clear H1
        obtain ⟨ji6, hji6⟩ : ∃ j_ : Int, (wrap64 (a1 + 1)) = j_ := ⟨_, rfl⟩
        replace H : (if 0 ≤ (ji6) then (if (ji6 : Int).toNat ≤ 281474976710656 then ((some (List.replicate (ji6 : Int).toNat false : List Bool)).bind fun y128 => (if 0 ≤ a1 then (if a1 < (y128.length : Int) then (term_Arena_Term.l0 kj2 l0 a1 (y128.set (a1 : Int).toNat true) a1) else (none)) else (none))) else (none)) else (none)) = some r := by first | (rw [hji6] at H; exact H) | (simp only [hji6] at H ⊢; exact H)
        have hji6w : (IntKind.i64.wrap (a1 + 1)) = ji6 := (i64_w _).trans hji6
        by_cases c7 : 0 ≤ (ji6)
        · rw [if_pos c7] at H
          have c7b0 := eq_true c7
          have c7b1 : decide (0 ≤ (ji6)) = true := decide_eq_true c7
          clear c7
          by_cases c8 : (ji6 : Int).toNat ≤ 281474976710656
          · rw [if_pos c8] at H
            have c8b0 := eq_true c8
            have c8b1 : decide ((ji6 : Int).toNat ≤ 281474976710656) = true := decide_eq_true c8
            clear c8
            obtain ⟨y128, hy128⟩ : ∃ y_ : List Bool, y_ = (List.replicate (ji6 : Int).toNat false) := ⟨_, rfl⟩
            replace H : (if 0 ≤ a1 then (if a1 < (y128.length : Int) then (term_Arena_Term.l0 kj2 l0 a1 (y128.set (a1 : Int).toNat true) a1) else (none)) else (none)) = some r := by first | (rw [hy128]; with_reducible exact H) | (have H2_ := (Option.bind_some _ _).symm.trans H; rw [hy128]; with_reducible exact H2_) | (have H2_ := (Option.bind_some _ _).symm.trans H; with_reducible exact H2_) | with_reducible exact H | (rw [hy128]; exact H) | exact H
            have Ny128 := Aside0.mk hy128
            clear hy128
            by_cases c9 : 0 ≤ a1
            · rw [if_pos c9] at H
              have c9b0 : decide (0 ≤ a1) = true := decide_eq_true c9
              clear c9
              by_cases c10 : a1 < (y128.length : Int)
              · rw [if_pos c10] at H
                have c10b0 : decide (a1 < (y128.length : Int)) = true := decide_eq_true c10
                clear c10
                obtain ⟨y131, hy131⟩ : ∃ y_ : List Bool, y_ = (y128.set (a1 : Int).toNat true) := ⟨_, rfl⟩
                replace H : (term_Arena_Term.l0 kj2 l0 a1 y131 a1) = some r := by first | (rw [hy131]; with_reducible exact H) | (have H2_ := (Option.bind_some _ _).symm.trans H; rw [hy131]; with_reducible exact H2_) | (have H2_ := (Option.bind_some _ _).symm.trans H; with_reducible exact H2_) | with_reducible exact H | (rw [hy131]; exact H) | exact H
                have Ny131 := Aside0.mk hy131
                clear hy131
                have H' := Aside0.mk H
                clear H
                (try clear hcg)
                (try have hcg := (HB.out.cell (World.block_lt_of_cell? w _ HG0.out)).trans HG0.out)
                go_wp2_with (first | ((with_reducible refine gate_dst (N := 25) rfl ?_); (try (refine gate_guard (by rfl) ?_; dsimp only)); refine Kd.R_make Kd.bool _ 4 rfl (N := 25) rfl 66 _ _ rfl ji6 rfl rfl Try.underlying66 (.bool false) 1 info4 rfl (by decide) (by omega) false (ok := fun _ => True) (okp := fun _ => True) rfl (fun _ hk => hk) trivial (of_decide_eq_true (by first | (with_reducible assumption) | assumption)) (Nat.le_trans (Nat.mul_le_mul_right _ (of_decide_eq_true (by first | (with_reducible assumption) | assumption) : ji6.toNat ≤ 281474976710656)) (by omega)) (Below.refl _ _) (Nat.le_refl _) ?_; intro v129 w12 ho13 hb hg_ hnew_; clear hg_ hnew_; (first | rw [← Ny128.out] at ho13 | (simp only [Int.reduceToNat] at ho13; rw [← Ny128.out] at ho13)); have n0_ := Aside0.mk (Kd.R_lower ho13 (below_size (by repeat (first | (with_reducible first | exact HB.out | apply below_alloc | apply pw_below_drewN | apply below_drew1) | exact HB.out)))); have n1_ := Aside0.mk (below_step (by repeat (first | (with_reducible first | exact HB.out | apply below_alloc | apply pw_below_drewN | apply below_drew1) | exact HB.out)) hb); clear HB; have HO130 := n0_; have HB := n1_; (try clear hcg); have hcg := (HB.out.cell (World.block_lt_of_cell? w _ HG0.out)).trans HG0.out; clear n0_ n1_; clear hb ho13; have p11 : 0 ≤ (a1 : Int) := of_decide_eq_true (by first | (with_reducible assumption) | assumption); have q11 : (a1 : Int) < ((y128.length : Int) : Int) := of_decide_eq_true (by first | (with_reducible assumption) | assumption); obtain ⟨go11, co11, eo11, gb11, gl11, cl11, HG11⟩ := Kd.R_form HO130.out (by omega); (first | cases eo11 | (injection eo11 with ea_ en_ ec_; (first | subst ea_ | (injection ea_ with ea_; subst ea_)); subst ec_; clear en_)); have GB11 := Aside0.mk gb11; have GG11 := Aside0.mk HG11; clear gb11 gl11 HG11; obtain ⟨hx11_0, hf11_0⟩ := Kd.R_celln false HO130.out (a1 : Int) p11 q11; replace p11 := eq_true p11; replace q11 := eq_true q11; obtain ⟨hy14_, hz14_⟩ := Kd.R_celln false HO130.out (a1 : Int) (of_decide_eq_true (by first | (with_reducible assumption) | assumption)) (of_decide_eq_true (by first | (with_reducible assumption) | assumption)); have HP14 := Kd.R_putg HO130.out (a1 : Int) true) | ((with_reducible refine gate_store (t := 4) (p := 28) rfl ?_); refine store_event (t := 4) (p := 28) (v := ?vo_w15) (w1 := (w12.setCell ⟨go11, (a1 : Int).toNat, none⟩ (.bool true))) ?hg ?ho ?hn ?hr ?_; (case ho => rfl); (case hg => rfl); (case hn => rfl); (case hr => first | (go_simp; done) | (go_simp; rfl)); intro w15 hw; have hg : w12.grownBy w15 (some go11) := (by rw [hw]; exact HP14.2); have hp_ : Kd.R Kd.bool 4 w15 w.heap.size (fun _ => True) (.slice (some ⟨go11, 0, none⟩) y128.length co11) y131 := (by rw [hw, Ny131.out]; exact HP14.1); clear HP14; have n0_ := Aside0.mk (hp_); have n1_ := Aside0.mk ((by rw [hw]; exact below_set (HB.out) GB11.out : Below w.heap.size w w15)); clear HO130; clear HB; have HO130 := n0_; have HB := n1_; (try clear hcg); have hcg := (HB.out.cell (World.block_lt_of_cell? w _ HG0.out)).trans HG0.out; clear n0_ n1_; clear hg hw hp_))
                (try clear hcg)
                go_loopg [6] kj2 (fun kq v6 w' => ∃ (x5_2 : List Bool) (x6_2 : Int), v6 = .int .i64 x6_2 ∧ Aside0 (term_Arena_Term.l0 kq l0 a1 x5_2 x6_2 = some r) ∧ Aside0 (kq ≤ kj2) ∧ Aside0 (Kd.R Kd.bool 4 w' w.heap.size (fun _ => True) (.slice (some ⟨go11, 0, none⟩) y128.length co11) x5_2) ∧ Aside0 (Below w.heap.size w w'))
                case atStart => exact ⟨(y131), (a1), (by first | rfl | (simp; done) | (simp [*]; done)), H', ⟨Nat.le_refl _⟩, ⟨by (with_reducible repeat (first | apply Kd.R_alloc | apply Kd.R_drewN | apply Kd.R_drew)); exact HO130.out⟩, ⟨by repeat (first | (with_reducible first | exact HB.out | apply below_alloc | apply pw_below_drewN | apply below_drew1) | exact HB.out)⟩⟩
                case round =>
                  clear H'
                  try clear c1
                  try clear p1
                  try clear q1
                  try clear hx1
                  try clear p2
                  try clear c4
                  try clear c4b0
                  try clear c5
                  try clear p6
                  try clear c7
                  try clear c7b0
                  try clear c7b1
                  try clear c8
                  try clear c8b0
                  try clear c8b1
                  try clear c9
                  try clear c9b0
                  try clear c10
                  try clear c10b0
                  try clear p11
                  try clear q11
                  try clear hx11
                  try clear hf11
                  try clear hx11_0
                  try clear p11
                  try clear p2
                  try clear q11
                  obtain ⟨x5_2, x6_2, rfl, HA, HK2, HO_5, HB⟩ := hrel
                  have hl5_2 := (Kd.R_reads' HO_5.out).1
                  rw [hl5_2] at HO_5
                  (try simp only [hl5_2])
                  cases gk with
                  | zero => exact absurd HA.out (by simp [term_Arena_Term.l0])
                  | succ k2 =>
                    have H := HA.out
                    clear HA
                    simp only [term_Arena_Term.l0] at H
                    by_cases c16 : x6_2 ≥ 0
                    · rw [if_pos c16] at H
                      have c16b0 : decide (0 ≤ x6_2) = true := decide_eq_true c16
                      clear c16
                      by_cases c17 : 0 ≤ x6_2
                      · rw [if_pos c17] at H
                        have c17b0 : decide (0 ≤ x6_2) = true := decide_eq_true c17
                        clear c17
                        by_cases c18 : x6_2 < (x5_2.length : Int)
                        · rw [if_pos c18] at H
                          have c18b0 : decide (x6_2 < (x5_2.length : Int)) = true := decide_eq_true c18
                          clear c18
                          obtain ⟨bq19, hbq19⟩ : ∃ b_ : Bool, b_ = (rdOf false x5_2 x6_2) := ⟨_, rfl⟩
                          replace H : (if bq19 = true then (if x6_2 < (l0.length : Int) then ((term_Kids.f k2 ((rd_T32 l0 x6_2).f0)).bind fun t134 => (term_Arena_Term.l1 k2 l0 a1 x5_2 x6_2 t134 0)) else (none)) else (term_Arena_Term.l0 k2 l0 a1 x5_2 (wrap64 (x6_2 - 1)))) = some r := by rw [← hbq19] at H; exact H
                          have Nbq19 := Aside0.mk hbq19
                          clear hbq19
                          by_cases c20 : bq19 = true
                          · subst c20
                            have H1 : (if x6_2 < (l0.length : Int) then ((term_Kids.f k2 ((rd_T32 l0 x6_2).f0)).bind fun t134 => (term_Arena_Term.l1 k2 l0 a1 x5_2 x6_2 t134 0)) else (none)) = some r := by rw [if_pos rfl] at H; exact H
                            clear H
                            have H := H1
                            clear H1
                            by_cases c21 : x6_2 < (l0.length : Int)
                            · rw [if_pos c21] at H
                              have c21b0 : decide (x6_2 < (l0.length : Int)) = true := decide_eq_true c21
                              clear c21
                              replace H := Option.bind_eq_some_iff.mp H
                              obtain ⟨t134, A220, H⟩ := H
                              replace H : (term_Arena_Term.l1 k2 l0 a1 x5_2 x6_2 t134 0) = some r := H
                              have A22 := Aside0.mk A220
                              clear A220
                              have H' := Aside0.mk H
                              clear H
                              have p132 : 0 ≤ (x6_2 : Int) := of_decide_eq_true (by first | (with_reducible assumption) | assumption)
                              have q132 : x6_2 < (x5_2.length : Int) := of_decide_eq_true (by first | (with_reducible assumption) | assumption)
                              obtain ⟨ad132, e132, hx132_0⟩ := Kd.at_bool (Kd.R_reads' HO_5.out).2.2 x6_2 p132 q132
                              (try rw [← Nbq19.out] at hx132_0)
                              obtain rfl : (⟨go11, 0, none⟩ : Addr) = ad132 := (by injection e132)
                              (first | simp only [add_plain] at hx132_0 | simp only [add_at] at hx132_0 | simp only [Addr.add, Nat.zero_add] at hx132_0 | skip)
                              replace p132 := eq_true p132
                              replace q132 := eq_true q132
                              have p133 : 0 ≤ (x6_2 : Int) := of_decide_eq_true (by first | (with_reducible assumption) | assumption)
                              have q133 : x6_2 < (l0.length : Int) := of_decide_eq_true (by first | (with_reducible assumption) | assumption)
                              obtain ⟨ad133, e133, hx133_0, hx133_1, hx133_2, hx133_3, hx133_4, hx133_5⟩ := at_T32 HR0.out x6_2 p133 q133
                              cases e133
                              replace hx133_0 := (HB.out.cell (World.block_lt_of_cell? w _ hx133_0)).trans hx133_0
                              replace hx133_1 := (HB.out.cell (World.block_lt_of_cell? w _ hx133_1)).trans hx133_1
                              replace hx133_2 := (HB.out.cell (World.block_lt_of_cell? w _ hx133_2)).trans hx133_2
                              replace hx133_3 := (HB.out.cell (World.block_lt_of_cell? w _ hx133_3)).trans hx133_3
                              replace hx133_4 := (HB.out.cell (World.block_lt_of_cell? w _ hx133_4)).trans hx133_4
                              replace hx133_5 := (HB.out.cell (World.block_lt_of_cell? w _ hx133_5)).trans hx133_5
                              replace p133 := eq_true p133
                              replace q133 := eq_true q133
                              (try clear hcg)
                              (try have hcg := (HB.out.cell (World.block_lt_of_cell? w _ HG0.out)).trans HG0.out)
                              go_wp2_with (first | ((with_reducible refine gate_callee (f := 21) rfl ?_); refine goesL_ (some 46) rfl rfl Try.func21 (by kernel_rfl) rfl #[.int .i64 ((rd_T32 l0 x6_2).f0)] rfl (by (try simp only [List.map_toArray, List.map_cons, List.map_nil]); first | done | rfl | (simp only [List.length_drop, List.length_take]; rfl)) ?_; (with_reducible refine (term_Kids.calls k2 ((rd_T32 l0 x6_2).f0) t134 _ A22.out).mono ?_); rintro e w' ⟨rfl, ⟨nd, rfl⟩⟩; refine ⟨_, rfl, ?_⟩))
                              (try clear hcg)
                              go_loopg [47] k2 (fun kq v47 w' => ∃ (x5_3 : List Bool) (x47_3 : Int), v47 = .int .i64 x47_3 ∧ Aside0 (term_Arena_Term.l1 kq l0 a1 x5_3 x6_2 t134 x47_3 = some r) ∧ Aside0 (kq ≤ k2) ∧ Aside0 (Kd.R Kd.bool 4 w' w.heap.size (fun _ => True) (.slice (some ⟨go11, 0, none⟩) x5_2.length co11) x5_3) ∧ Aside0 (Below w.heap.size w w'))
                              case atStart => exact ⟨(x5_2), (0), (by first | rfl | (simp; done) | (simp [*]; done)), H', ⟨Nat.le_refl _⟩, ⟨by (try simp only [hl5_2]); (with_reducible repeat (first | apply Kd.R_alloc | apply Kd.R_drewN | apply Kd.R_drew)); exact HO_5.out⟩, ⟨by repeat (first | (with_reducible first | exact HB.out | apply below_alloc | apply pw_below_drewN | apply below_drew1) | exact HB.out)⟩⟩
                              case round =>
                                clear H'
                                try clear c1
                                try clear p1
                                try clear q1
                                try clear hx1
                                try clear c2
                                try clear p2
                                try clear c4
                                try clear c4b0
                                try clear c5
                                try clear p6
                                try clear c7
                                try clear c7b0
                                try clear c7b1
                                try clear c8
                                try clear c8b0
                                try clear c8b1
                                try clear c9
                                try clear c9b0
                                try clear c10
                                try clear c10b0
                                try clear p11
                                try clear q11
                                try clear hx11
                                try clear hf11
                                try clear p13
                                try clear q13
                                try clear hx13
                                try clear c16
                                try clear c16b0
                                try clear c17
                                try clear c17b0
                                try clear c18
                                try clear c18b0
                                try clear q19
                                try clear c20
                                try clear c21
                                try clear c21b0
                                try clear hx11_0
                                try clear hx132_0
                                try clear hx133_0
                                try clear hx133_1
                                try clear hx133_2
                                try clear hx133_3
                                try clear hx133_4
                                try clear hx133_5
                                try clear p1
                                try clear p11
                                try clear p132
                                try clear p133
                                try clear p2
                                try clear p6
                                try clear q1
                                try clear q11
                                try clear q132
                                try clear q133
                                obtain ⟨x5_3, x47_3, rfl, HA, HK3, HO_5, HB⟩ := hrel
                                have hl5_3 := (Kd.R_reads' HO_5.out).1
                                rw [hl5_3] at HO_5
                                (try simp only [hl5_3])
                                cases gk with
                                | zero => exact absurd HA.out (by simp [term_Arena_Term.l1])
                                | succ k3 =>
                                  have H := HA.out
                                  clear HA
                                  simp only [term_Arena_Term.l1] at H
                                  by_cases c23 : x47_3 < t134
                                  · rw [if_pos c23] at H
                                    have c23b0 : decide (x47_3 < t134) = true := decide_eq_true c23
                                    clear c23
                                    by_cases c24 : 0 ≤ x6_2
                                    · rw [if_pos c24] at H
                                      have c24b0 : decide (0 ≤ x6_2) = true := decide_eq_true c24
                                      clear c24
                                      by_cases c25 : x6_2 < (l0.length : Int)
                                      · rw [if_pos c25] at H
                                        have c25b0 : decide (x6_2 < (l0.length : Int)) = true := decide_eq_true c25
                                        clear c25
                                        by_cases c26 : x47_3 = 0
                                        · rw [if_pos c26] at H
                                          have c26b0 : (x47_3 == 0) = true := beq_iff_eq.mpr c26
                                          have c26b1 : (x47_3 != 0) = false := bne_eq_false_iff_eq.mpr c26
                                          clear c26
                                          have hai27_ : (x47_3 : Int) = 0 := beq_iff_eq.mp (by first | (with_reducible assumption) | assumption)
                                          have p27 : (0 ≤ (x47_3 : Int)) = True := eq_true (by omega)
                                          have q27 : ((x47_3 : Int) < 3) = True := eq_true (by omega)
                                          have qi27 : True → (x47_3 : Int).toNat = 0 := fun _ => by omega
                                          clear hai27_
                                          by_cases c28 : 0 ≤ ((rd_T32 l0 x6_2).f3.f0)
                                          · rw [if_pos c28] at H
                                            have c28b0 : decide (0 ≤ ((rd_T32 l0 x6_2).f3.f0)) = true := decide_eq_true c28
                                            clear c28
                                            by_cases c29 : ((rd_T32 l0 x6_2).f3.f0) < (x5_3.length : Int)
                                            · rw [if_pos c29] at H
                                              have c29b0 : decide (((rd_T32 l0 x6_2).f3.f0) < (x5_3.length : Int)) = true := decide_eq_true c29
                                              clear c29
                                              obtain ⟨y136, hy136⟩ : ∃ y_ : List Bool, y_ = (x5_3.set (((rd_T32 l0 x6_2).f3.f0) : Int).toNat true) := ⟨_, rfl⟩
                                              replace H : (term_Arena_Term.l1 k3 l0 a1 y136 x6_2 t134 (wrap64 (x47_3 + 1))) = some r := by first | (rw [hy136]; with_reducible exact H) | (have H2_ := (Option.bind_some _ _).symm.trans H; rw [hy136]; with_reducible exact H2_) | (have H2_ := (Option.bind_some _ _).symm.trans H; with_reducible exact H2_) | with_reducible exact H | (rw [hy136]; exact H) | exact H
                                              have Ny136 := Aside0.mk hy136
                                              clear hy136
                                              have H' := Aside0.mk H
                                              clear H
                                              have p135 : 0 ≤ (x6_2 : Int) := of_decide_eq_true (by first | (with_reducible assumption) | assumption)
                                              have q135 : x6_2 < (l0.length : Int) := of_decide_eq_true (by first | (with_reducible assumption) | assumption)
                                              obtain ⟨ad135, e135, hx135_0, hx135_1, hx135_2, hx135_3, hx135_4, hx135_5⟩ := at_T32 HR0.out x6_2 p135 q135
                                              obtain rfl : ad133 = ad135 := (by injection e135)
                                              replace hx135_0 := (HB.out.cell (World.block_lt_of_cell? w _ hx135_0)).trans hx135_0
                                              replace hx135_1 := (HB.out.cell (World.block_lt_of_cell? w _ hx135_1)).trans hx135_1
                                              replace hx135_2 := (HB.out.cell (World.block_lt_of_cell? w _ hx135_2)).trans hx135_2
                                              replace hx135_3 := (HB.out.cell (World.block_lt_of_cell? w _ hx135_3)).trans hx135_3
                                              replace hx135_4 := (HB.out.cell (World.block_lt_of_cell? w _ hx135_4)).trans hx135_4
                                              replace hx135_5 := (HB.out.cell (World.block_lt_of_cell? w _ hx135_5)).trans hx135_5
                                              replace p135 := eq_true p135
                                              replace q135 := eq_true q135
                                              have p30 : 0 ≤ (((rd_T32 l0 x6_2).f3.f0) : Int) := of_decide_eq_true (by first | (with_reducible assumption) | assumption)
                                              have q30 : (((rd_T32 l0 x6_2).f3.f0) : Int) < ((x5_3.length : Int) : Int) := of_decide_eq_true (by first | (with_reducible assumption) | assumption)
                                              obtain ⟨hx30_0, hf30_0⟩ := Kd.R_celln false HO_5.out (((rd_T32 l0 x6_2).f3.f0) : Int) p30 q30
                                              replace p30 := eq_true p30
                                              replace q30 := eq_true q30
                                              have HP31 := Kd.R_putg HO_5.out (((rd_T32 l0 x6_2).f3.f0) : Int) true
                                              (try clear hcg)
                                              (try have hcg := (HB.out.cell (World.block_lt_of_cell? w _ HG0.out)).trans HG0.out)
                                              go_wp2_with (first | ((with_reducible refine gate_store (t := 4) (p := 61) rfl ?_); refine store_event (t := 4) (p := 61) (v := ?vo_w32) (w1 := (wr.setCell ⟨go11, (((rd_T32 l0 x6_2).f3.f0) : Int).toNat, none⟩ (.bool true))) ?hg ?ho ?hn ?hr ?_; (case ho => rfl); (case hg => rfl); (case hn => rfl); (case hr => first | (go_simp; done) | (go_simp; rfl)); intro w32 hw; have hg : wr.grownBy w32 (some go11) := (by rw [hw]; exact HP31.2); have hp_ : Kd.R Kd.bool 4 w32 w.heap.size (fun _ => True) (.slice (some ⟨go11, 0, none⟩) x5_3.length co11) y136 := (by rw [hw, Ny136.out]; exact HP31.1); clear HP31; have n0_ := Aside0.mk (hp_); have n1_ := Aside0.mk ((by rw [hw]; exact below_set (HB.out) GB11.out : Below w.heap.size w w32)); clear HO_5; clear HB; have HO_5 := n0_; have HB := n1_; (try clear hcg); have hcg := (HB.out.cell (World.block_lt_of_cell? w _ HG0.out)).trans HG0.out; clear n0_ n1_; clear hg hw hp_))
                                              (try simp only [← hl5_3])
                                              go_roundg k3
                                              case measure => have := HJ2.out; have := HK2.out; have := HK3.out; omega
                                              case rel => exact ⟨(y136), (wrap64 (x47_3 + 1)), (by first | rfl | (simp; done) | (simp [*]; done)), H', ⟨by have := HJ2.out; have := HK2.out; have := HK3.out; omega⟩, ⟨by (try simp only [hl5_2]); (try simp only [hl5_3]); (with_reducible repeat (first | apply Kd.R_alloc | apply Kd.R_drewN | apply Kd.R_drew)); exact HO_5.out⟩, ⟨by repeat (first | (with_reducible first | exact HB.out | apply below_alloc | apply pw_below_drewN | apply below_drew1) | exact HB.out)⟩⟩
                                            · rw [if_neg c29] at H
                                              exact absurd H (by simp)
                                          · rw [if_neg c28] at H
                                            exact absurd H (by simp)
                                        · rw [if_neg c26] at H
                                          have c26b0 : (x47_3 == 0) = false := beq_eq_false_iff_ne.mpr c26
                                          have c26b1 : (x47_3 != 0) = true := bne_iff_ne.mpr c26
                                          by_cases c33 : x47_3 = 1
                                          · rw [if_pos c33] at H
                                            have c33b0 : (x47_3 == 1) = true := beq_iff_eq.mpr c33
                                            have c33b1 : (x47_3 != 1) = false := bne_eq_false_iff_eq.mpr c33
                                            clear c33
                                            have hai34_ : (x47_3 : Int) = 1 := beq_iff_eq.mp (by first | (with_reducible assumption) | assumption)
                                            have p34 : (0 ≤ (x47_3 : Int)) = True := eq_true (by omega)
                                            have q34 : ((x47_3 : Int) < 3) = True := eq_true (by omega)
                                            have qi34 : True → (x47_3 : Int).toNat = 1 := fun _ => by omega
                                            clear hai34_
                                            by_cases c35 : 0 ≤ ((rd_T32 l0 x6_2).f3.f1)
                                            · rw [if_pos c35] at H
                                              have c35b0 : decide (0 ≤ ((rd_T32 l0 x6_2).f3.f1)) = true := decide_eq_true c35
                                              clear c35
                                              by_cases c36 : ((rd_T32 l0 x6_2).f3.f1) < (x5_3.length : Int)
                                              · rw [if_pos c36] at H
                                                have c36b0 : decide (((rd_T32 l0 x6_2).f3.f1) < (x5_3.length : Int)) = true := decide_eq_true c36
                                                clear c36
                                                obtain ⟨y137, hy137⟩ : ∃ y_ : List Bool, y_ = (x5_3.set (((rd_T32 l0 x6_2).f3.f1) : Int).toNat true) := ⟨_, rfl⟩
                                                replace H : (term_Arena_Term.l1 k3 l0 a1 y137 x6_2 t134 (wrap64 (x47_3 + 1))) = some r := by first | (rw [hy137]; with_reducible exact H) | (have H2_ := (Option.bind_some _ _).symm.trans H; rw [hy137]; with_reducible exact H2_) | (have H2_ := (Option.bind_some _ _).symm.trans H; with_reducible exact H2_) | with_reducible exact H | (rw [hy137]; exact H) | exact H
                                                have Ny137 := Aside0.mk hy137
                                                clear hy137
                                                have H' := Aside0.mk H
                                                clear H
                                                have p135 : 0 ≤ (x6_2 : Int) := of_decide_eq_true (by first | (with_reducible assumption) | assumption)
                                                have q135 : x6_2 < (l0.length : Int) := of_decide_eq_true (by first | (with_reducible assumption) | assumption)
                                                obtain ⟨ad135, e135, hx135_0, hx135_1, hx135_2, hx135_3, hx135_4, hx135_5⟩ := at_T32 HR0.out x6_2 p135 q135
                                                obtain rfl : ad133 = ad135 := (by injection e135)
                                                replace hx135_0 := (HB.out.cell (World.block_lt_of_cell? w _ hx135_0)).trans hx135_0
                                                replace hx135_1 := (HB.out.cell (World.block_lt_of_cell? w _ hx135_1)).trans hx135_1
                                                replace hx135_2 := (HB.out.cell (World.block_lt_of_cell? w _ hx135_2)).trans hx135_2
                                                replace hx135_3 := (HB.out.cell (World.block_lt_of_cell? w _ hx135_3)).trans hx135_3
                                                replace hx135_4 := (HB.out.cell (World.block_lt_of_cell? w _ hx135_4)).trans hx135_4
                                                replace hx135_5 := (HB.out.cell (World.block_lt_of_cell? w _ hx135_5)).trans hx135_5
                                                replace p135 := eq_true p135
                                                replace q135 := eq_true q135
                                                have p37 : 0 ≤ (((rd_T32 l0 x6_2).f3.f1) : Int) := of_decide_eq_true (by first | (with_reducible assumption) | assumption)
                                                have q37 : (((rd_T32 l0 x6_2).f3.f1) : Int) < ((x5_3.length : Int) : Int) := of_decide_eq_true (by first | (with_reducible assumption) | assumption)
                                                obtain ⟨hx37_0, hf37_0⟩ := Kd.R_celln false HO_5.out (((rd_T32 l0 x6_2).f3.f1) : Int) p37 q37
                                                replace p37 := eq_true p37
                                                replace q37 := eq_true q37
                                                have HP38 := Kd.R_putg HO_5.out (((rd_T32 l0 x6_2).f3.f1) : Int) true
                                                (try clear hcg)
                                                (try have hcg := (HB.out.cell (World.block_lt_of_cell? w _ HG0.out)).trans HG0.out)
                                                go_wp2_with (first | ((with_reducible refine gate_store (t := 4) (p := 61) rfl ?_); refine store_event (t := 4) (p := 61) (v := ?vo_w39) (w1 := (wr.setCell ⟨go11, (((rd_T32 l0 x6_2).f3.f1) : Int).toNat, none⟩ (.bool true))) ?hg ?ho ?hn ?hr ?_; (case ho => rfl); (case hg => rfl); (case hn => rfl); (case hr => first | (go_simp; done) | (go_simp; rfl)); intro w39 hw; have hg : wr.grownBy w39 (some go11) := (by rw [hw]; exact HP38.2); have hp_ : Kd.R Kd.bool 4 w39 w.heap.size (fun _ => True) (.slice (some ⟨go11, 0, none⟩) x5_3.length co11) y137 := (by rw [hw, Ny137.out]; exact HP38.1); clear HP38; have n0_ := Aside0.mk (hp_); have n1_ := Aside0.mk ((by rw [hw]; exact below_set (HB.out) GB11.out : Below w.heap.size w w39)); clear HO_5; clear HB; have HO_5 := n0_; have HB := n1_; (try clear hcg); have hcg := (HB.out.cell (World.block_lt_of_cell? w _ HG0.out)).trans HG0.out; clear n0_ n1_; clear hg hw hp_))
                                                (try simp only [← hl5_3])
                                                go_roundg k3
                                                case measure => have := HJ2.out; have := HK2.out; have := HK3.out; omega
                                                case rel => exact ⟨(y137), (wrap64 (x47_3 + 1)), (by first | rfl | (simp; done) | (simp [*]; done)), H', ⟨by have := HJ2.out; have := HK2.out; have := HK3.out; omega⟩, ⟨by (try simp only [hl5_2]); (try simp only [hl5_3]); (with_reducible repeat (first | apply Kd.R_alloc | apply Kd.R_drewN | apply Kd.R_drew)); exact HO_5.out⟩, ⟨by repeat (first | (with_reducible first | exact HB.out | apply below_alloc | apply pw_below_drewN | apply below_drew1) | exact HB.out)⟩⟩
                                              · rw [if_neg c36] at H
                                                exact absurd H (by simp)
                                            · rw [if_neg c35] at H
                                              exact absurd H (by simp)
                                          · rw [if_neg c33] at H
                                            have c33b0 : (x47_3 == 1) = false := beq_eq_false_iff_ne.mpr c33
                                            have c33b1 : (x47_3 != 1) = true := bne_iff_ne.mpr c33
                                            by_cases c40 : x47_3 = 2
                                            · rw [if_pos c40] at H
                                              have c40b0 : (x47_3 == 2) = true := beq_iff_eq.mpr c40
                                              have c40b1 : (x47_3 != 2) = false := bne_eq_false_iff_eq.mpr c40
                                              clear c40
                                              have hai41_ : (x47_3 : Int) = 2 := beq_iff_eq.mp (by first | (with_reducible assumption) | assumption)
                                              have p41 : (0 ≤ (x47_3 : Int)) = True := eq_true (by omega)
                                              have q41 : ((x47_3 : Int) < 3) = True := eq_true (by omega)
                                              have qi41 : True → (x47_3 : Int).toNat = 2 := fun _ => by omega
                                              clear hai41_
                                              by_cases c42 : 0 ≤ ((rd_T32 l0 x6_2).f3.f2)
                                              · rw [if_pos c42] at H
                                                have c42b0 : decide (0 ≤ ((rd_T32 l0 x6_2).f3.f2)) = true := decide_eq_true c42
                                                clear c42
                                                by_cases c43 : ((rd_T32 l0 x6_2).f3.f2) < (x5_3.length : Int)
                                                · rw [if_pos c43] at H
                                                  have c43b0 : decide (((rd_T32 l0 x6_2).f3.f2) < (x5_3.length : Int)) = true := decide_eq_true c43
                                                  clear c43
                                                  obtain ⟨y138, hy138⟩ : ∃ y_ : List Bool, y_ = (x5_3.set (((rd_T32 l0 x6_2).f3.f2) : Int).toNat true) := ⟨_, rfl⟩
                                                  replace H : (term_Arena_Term.l1 k3 l0 a1 y138 x6_2 t134 (wrap64 (x47_3 + 1))) = some r := by first | (rw [hy138]; with_reducible exact H) | (have H2_ := (Option.bind_some _ _).symm.trans H; rw [hy138]; with_reducible exact H2_) | (have H2_ := (Option.bind_some _ _).symm.trans H; with_reducible exact H2_) | with_reducible exact H | (rw [hy138]; exact H) | exact H
                                                  have Ny138 := Aside0.mk hy138
                                                  clear hy138
                                                  have H' := Aside0.mk H
                                                  clear H
                                                  have p135 : 0 ≤ (x6_2 : Int) := of_decide_eq_true (by first | (with_reducible assumption) | assumption)
                                                  have q135 : x6_2 < (l0.length : Int) := of_decide_eq_true (by first | (with_reducible assumption) | assumption)
                                                  obtain ⟨ad135, e135, hx135_0, hx135_1, hx135_2, hx135_3, hx135_4, hx135_5⟩ := at_T32 HR0.out x6_2 p135 q135
                                                  obtain rfl : ad133 = ad135 := (by injection e135)
                                                  replace hx135_0 := (HB.out.cell (World.block_lt_of_cell? w _ hx135_0)).trans hx135_0
                                                  replace hx135_1 := (HB.out.cell (World.block_lt_of_cell? w _ hx135_1)).trans hx135_1
                                                  replace hx135_2 := (HB.out.cell (World.block_lt_of_cell? w _ hx135_2)).trans hx135_2
                                                  replace hx135_3 := (HB.out.cell (World.block_lt_of_cell? w _ hx135_3)).trans hx135_3
                                                  replace hx135_4 := (HB.out.cell (World.block_lt_of_cell? w _ hx135_4)).trans hx135_4
                                                  replace hx135_5 := (HB.out.cell (World.block_lt_of_cell? w _ hx135_5)).trans hx135_5
                                                  replace p135 := eq_true p135
                                                  replace q135 := eq_true q135
                                                  have p44 : 0 ≤ (((rd_T32 l0 x6_2).f3.f2) : Int) := of_decide_eq_true (by first | (with_reducible assumption) | assumption)
                                                  have q44 : (((rd_T32 l0 x6_2).f3.f2) : Int) < ((x5_3.length : Int) : Int) := of_decide_eq_true (by first | (with_reducible assumption) | assumption)
                                                  obtain ⟨hx44_0, hf44_0⟩ := Kd.R_celln false HO_5.out (((rd_T32 l0 x6_2).f3.f2) : Int) p44 q44
                                                  replace p44 := eq_true p44
                                                  replace q44 := eq_true q44
                                                  have HP45 := Kd.R_putg HO_5.out (((rd_T32 l0 x6_2).f3.f2) : Int) true
                                                  (try clear hcg)
                                                  (try have hcg := (HB.out.cell (World.block_lt_of_cell? w _ HG0.out)).trans HG0.out)
                                                  go_wp2_with (first | ((with_reducible refine gate_store (t := 4) (p := 61) rfl ?_); refine store_event (t := 4) (p := 61) (v := ?vo_w46) (w1 := (wr.setCell ⟨go11, (((rd_T32 l0 x6_2).f3.f2) : Int).toNat, none⟩ (.bool true))) ?hg ?ho ?hn ?hr ?_; (case ho => rfl); (case hg => rfl); (case hn => rfl); (case hr => first | (go_simp; done) | (go_simp; rfl)); intro w46 hw; have hg : wr.grownBy w46 (some go11) := (by rw [hw]; exact HP45.2); have hp_ : Kd.R Kd.bool 4 w46 w.heap.size (fun _ => True) (.slice (some ⟨go11, 0, none⟩) x5_3.length co11) y138 := (by rw [hw, Ny138.out]; exact HP45.1); clear HP45; have n0_ := Aside0.mk (hp_); have n1_ := Aside0.mk ((by rw [hw]; exact below_set (HB.out) GB11.out : Below w.heap.size w w46)); clear HO_5; clear HB; have HO_5 := n0_; have HB := n1_; (try clear hcg); have hcg := (HB.out.cell (World.block_lt_of_cell? w _ HG0.out)).trans HG0.out; clear n0_ n1_; clear hg hw hp_))
                                                  (try simp only [← hl5_3])
                                                  go_roundg k3
                                                  case measure => have := HJ2.out; have := HK2.out; have := HK3.out; omega
                                                  case rel => exact ⟨(y138), (wrap64 (x47_3 + 1)), (by first | rfl | (simp; done) | (simp [*]; done)), H', ⟨by have := HJ2.out; have := HK2.out; have := HK3.out; omega⟩, ⟨by (try simp only [hl5_2]); (try simp only [hl5_3]); (with_reducible repeat (first | apply Kd.R_alloc | apply Kd.R_drewN | apply Kd.R_drew)); exact HO_5.out⟩, ⟨by repeat (first | (with_reducible first | exact HB.out | apply below_alloc | apply pw_below_drewN | apply below_drew1) | exact HB.out)⟩⟩
                                                · rw [if_neg c43] at H
                                                  exact absurd H (by simp)
                                              · rw [if_neg c42] at H
                                                exact absurd H (by simp)
                                            · rw [if_neg c40] at H
                                              exact absurd H (by simp)
                                      · rw [if_neg c25] at H
                                        exact absurd H (by simp)
                                    · rw [if_neg c24] at H
                                      exact absurd H (by simp)
                                  · rw [if_neg c23] at H
                                    have c23b0 : decide (x47_3 < t134) = false := decide_eq_false c23
                                    clear c23
                                    have H' := Aside0.mk H
                                    clear H
                                    (try clear hcg)
                                    (try have hcg := (HB.out.cell (World.block_lt_of_cell? w _ HG0.out)).trans HG0.out)
                                    go_wp2
                                    (try simp only [← hl5_2, ← hl5_3])
                                    go_roundg k3
                                    case measure => have := HJ2.out; have := HK2.out; have := HK3.out; omega
                                    case rel => exact ⟨(x5_3), (wrap64 (x6_2 - 1)), (by first | rfl | (simp; done) | (simp [*]; done)), H', ⟨by have := HJ2.out; have := HK2.out; have := HK3.out; omega⟩, ⟨by (try simp only [hl5_2]); (try simp only [hl5_3]); (with_reducible repeat (first | apply Kd.R_alloc | apply Kd.R_drewN | apply Kd.R_drew)); exact HO_5.out⟩, ⟨by repeat (first | (with_reducible first | exact HB.out | apply below_alloc | apply pw_below_drewN | apply below_drew1) | exact HB.out)⟩⟩
                            · rw [if_neg c21] at H
                              exact absurd H (by simp)
                          · replace c20 := Bool.eq_false_iff.mpr c20
                            subst c20
                            have H1 : (term_Arena_Term.l0 k2 l0 a1 x5_2 (wrap64 (x6_2 - 1))) = some r := by rw [if_neg (show ¬ (false = true) by decide)] at H; exact H
                            clear H
                            have H := H1
                            clear H1
                            have H' := Aside0.mk H
                            clear H
                            have p132 : 0 ≤ (x6_2 : Int) := of_decide_eq_true (by first | (with_reducible assumption) | assumption)
                            have q132 : x6_2 < (x5_2.length : Int) := of_decide_eq_true (by first | (with_reducible assumption) | assumption)
                            obtain ⟨ad132, e132, hx132_0⟩ := Kd.at_bool (Kd.R_reads' HO_5.out).2.2 x6_2 p132 q132
                            (try rw [← Nbq19.out] at hx132_0)
                            obtain rfl : (⟨go11, 0, none⟩ : Addr) = ad132 := (by injection e132)
                            (first | simp only [add_plain] at hx132_0 | simp only [add_at] at hx132_0 | simp only [Addr.add, Nat.zero_add] at hx132_0 | skip)
                            replace p132 := eq_true p132
                            replace q132 := eq_true q132
                            (try clear hcg)
                            (try have hcg := (HB.out.cell (World.block_lt_of_cell? w _ HG0.out)).trans HG0.out)
                            go_wp2
                            (try simp only [← hl5_2])
                            go_roundg k2
                            case measure => have := HJ2.out; have := HK2.out; omega
                            case rel => exact ⟨(x5_2), (wrap64 (x6_2 - 1)), (by first | rfl | (simp; done) | (simp [*]; done)), H', ⟨by have := HJ2.out; have := HK2.out; omega⟩, ⟨by (try simp only [hl5_2]); (with_reducible repeat (first | apply Kd.R_alloc | apply Kd.R_drewN | apply Kd.R_drew)); exact HO_5.out⟩, ⟨by repeat (first | (with_reducible first | exact HB.out | apply below_alloc | apply pw_below_drewN | apply below_drew1) | exact HB.out)⟩⟩
                        · rw [if_neg c18] at H
                          exact absurd H (by simp)
                      · rw [if_neg c17] at H
                        exact absurd H (by simp)
                    · rw [if_neg c16] at H
                      have c16b0 : decide (0 ≤ x6_2) = false := decide_eq_false c16
                      clear c16
                      obtain ⟨ji47, hji47⟩ : ∃ j_ : Int, (wrap64 (a1 + 1)) = j_ := ⟨_, rfl⟩
                      replace H : (if 0 ≤ (ji47) then (if (ji47 : Int).toNat ≤ 35184372088832 then (term_Arena_Term.l2 k2 l0 (List.replicate (ji47 : Int).toNat 0) ([] : List (S32)) x5_2 (x5_2.length : Int) 0) else (none)) else (none)) = some r := by first | (rw [hji47] at H; exact H) | (simp only [hji47] at H ⊢; exact H)
                      have hji47w : (IntKind.i64.wrap (a1 + 1)) = ji47 := (i64_w _).trans hji47
                      obtain rfl : ji47 = ji6 := hji47.symm.trans hji6
                      by_cases c48 : 0 ≤ (ji47)
                      · rw [if_pos c48] at H
                        have c48b0 := eq_true c48
                        have c48b1 : decide (0 ≤ (ji47)) = true := decide_eq_true c48
                        clear c48
                        by_cases c49 : (ji47 : Int).toNat ≤ 35184372088832
                        · rw [if_pos c49] at H
                          have c49b0 := eq_true c49
                          have c49b1 : decide ((ji47 : Int).toNat ≤ 35184372088832) = true := decide_eq_true c49
                          clear c49
                          obtain ⟨y139, hy139⟩ : ∃ y_ : List Int, y_ = (List.replicate (ji47 : Int).toNat 0) := ⟨_, rfl⟩
                          replace H : (term_Arena_Term.l2 k2 l0 y139 ([] : List (S32)) x5_2 (x5_2.length : Int) 0) = some r := by first | (rw [hy139]; with_reducible exact H) | (have H2_ := (Option.bind_some _ _).symm.trans H; rw [hy139]; with_reducible exact H2_) | (have H2_ := (Option.bind_some _ _).symm.trans H; with_reducible exact H2_) | with_reducible exact H | (rw [hy139]; exact H) | exact H
                          have Ny139 := Aside0.mk hy139
                          clear hy139
                          have H' := Aside0.mk H
                          clear H
                          (try clear hcg)
                          (try have hcg := (HB.out.cell (World.block_lt_of_cell? w _ HG0.out)).trans HG0.out)
                          go_wp2_with (first | ((with_reducible refine gate_dst (N := 65) rfl ?_); (try (refine gate_guard (by rfl) ?_; dsimp only)); refine Kd.R_make (Kd.int .i64) _ 3 rfl (N := 65) rfl 67 _ _ rfl ji47 rfl rfl Try.underlying67 (.int .i64 0) 8 info3 rfl (by decide) (by omega) 0 (ok := fun _ => True) (okp := fun _ => True) rfl (fun _ hk => hk) trivial (of_decide_eq_true (by first | (with_reducible assumption) | assumption)) (Nat.le_trans (Nat.mul_le_mul_right _ (of_decide_eq_true (by first | (with_reducible assumption) | assumption) : ji47.toNat ≤ 35184372088832)) (by omega)) (Below.refl _ _) (Nat.le_refl _) ?_; intro v140 w50 ho51 hb hg_ hnew_; clear hg_ hnew_; (first | rw [← Ny139.out] at ho51 | (simp only [Int.reduceToNat] at ho51; rw [← Ny139.out] at ho51)); have n0_ := Aside0.mk (Kd.R_below (by (with_reducible repeat (first | apply Kd.R_alloc | apply Kd.R_drewN | apply Kd.R_drew)); exact HO_5.out) hb); have n1_ := Aside0.mk (Kd.R_lower ho51 (below_size (by repeat (first | (with_reducible first | exact HB.out | apply below_alloc | apply pw_below_drewN | apply below_drew1) | exact HB.out)))); have n2_ := Aside0.mk (below_step (by repeat (first | (with_reducible first | exact HB.out | apply below_alloc | apply pw_below_drewN | apply below_drew1) | exact HB.out)) hb); clear HO_5; clear HB; have HO_5 := n0_; have HO141 := n1_; have HB := n2_; (try clear hcg); have hcg := (HB.out.cell (World.block_lt_of_cell? w _ HG0.out)).trans HG0.out; clear n0_ n1_ n2_; clear hb ho51))
                          (try clear hcg)
                          go_loopg [9, 68] k2 (fun kq v9 v68 w' => ∃ (x8_3 : List Int) (x9_3 : List (S32)) (x68_3 : Int), v68 = .int .i64 x68_3 ∧ Aside0 (term_Arena_Term.l2 kq l0 x8_3 x9_3 x5_2 (x5_2.length : Int) x68_3 = some r) ∧ Aside0 (kq ≤ k2) ∧ Aside0 (Kd.R (Kd.int .i64) 3 w' w.heap.size (fun _ => True) v140 x8_3) ∧ Aside0 (Kd.R k32 32 w' w.heap.size (fun _ => True) v9 x9_3) ∧ Aside0 (Kd.R Kd.bool 4 w' w.heap.size (fun _ => True) (.slice (some ⟨go11, 0, none⟩) x5_2.length co11) x5_2) ∧ Aside0 (Below w.heap.size w w'))
                          case atStart => exact ⟨(y139), (([] : List (S32))), (0), (by first | rfl | (simp; done) | (simp [*]; done)), H', ⟨Nat.le_refl _⟩, ⟨by (try simp only [hl5_2]); (with_reducible repeat (first | apply Kd.R_alloc | apply Kd.R_drewN | apply Kd.R_drew)); exact HO141.out⟩, ⟨by (try simp only [hl5_2]); first | exact Kd.R_nil _ _ _ _ _ | exact Kd.N_nil _ _ _ _ _ | exact Kd.V_nil _ _ _ _ _ | exact Kd.Q_nil _ _ _ _ _ | exact Kd.S_nil _ _ _ _ _⟩, ⟨by (try simp only [hl5_2]); (with_reducible repeat (first | apply Kd.R_alloc | apply Kd.R_drewN | apply Kd.R_drew)); exact HO_5.out⟩, ⟨by repeat (first | (with_reducible first | exact HB.out | apply below_alloc | apply pw_below_drewN | apply below_drew1) | exact HB.out)⟩⟩
                          case round =>
                            clear H'
                            try clear c1
                            try clear p1
                            try clear q1
                            try clear hx1
                            try clear c2
                            try clear p2
                            try clear q2
                            try clear qi2
                            try clear c3
                            try clear p3
                            try clear q3
                            try clear hx3
                            try clear qi3
                            try clear hf3
                            try clear c4
                            try clear c4b0
                            try clear p4
                            try clear q4
                            try clear hx4
                            try clear qi4
                            try clear hf4
                            try clear c5
                            try clear p6
                            try clear c7
                            try clear c7b0
                            try clear c7b1
                            try clear c8
                            try clear c8b0
                            try clear c8b1
                            try clear c9
                            try clear c9b0
                            try clear c10
                            try clear c10b0
                            try clear p11
                            try clear q11
                            try clear hx11
                            try clear hf11
                            try clear p13
                            try clear q13
                            try clear hx13
                            try clear c16
                            try clear c16b0
                            try clear c17
                            try clear c17b0
                            try clear c18
                            try clear c18b0
                            try clear q19
                            try clear c20
                            try clear c21
                            try clear c21b0
                            try clear c23
                            try clear c23b0
                            try clear c24
                            try clear c24b0
                            try clear c25
                            try clear c25b0
                            try clear c26
                            try clear c26b0
                            try clear c26b1
                            try clear p27
                            try clear q27
                            try clear qi27
                            try clear c28
                            try clear c28b0
                            try clear c29
                            try clear c29b0
                            try clear p30
                            try clear q30
                            try clear hx30
                            try clear hf30
                            try clear c33
                            try clear c33b0
                            try clear c33b1
                            try clear p34
                            try clear q34
                            try clear qi34
                            try clear c35
                            try clear c35b0
                            try clear c36
                            try clear c36b0
                            try clear p37
                            try clear q37
                            try clear hx37
                            try clear hf37
                            try clear c40
                            try clear c40b0
                            try clear c40b1
                            try clear p41
                            try clear q41
                            try clear qi41
                            try clear c42
                            try clear c42b0
                            try clear c43
                            try clear c43b0
                            try clear p44
                            try clear q44
                            try clear hx44
                            try clear hf44
                            try clear c48
                            try clear c48b0
                            try clear c48b1
                            try clear c49
                            try clear c49b0
                            try clear c49b1
                            try clear hx11_0
                            try clear hx132_0
                            try clear hx133_0
                            try clear hx133_1
                            try clear hx133_2
                            try clear hx133_3
                            try clear hx133_4
                            try clear hx133_5
                            try clear hx135_0
                            try clear hx135_1
                            try clear hx135_2
                            try clear hx135_3
                            try clear hx135_4
                            try clear hx135_5
                            try clear hx30_0
                            try clear hx37_0
                            try clear hx44_0
                            try clear p1
                            try clear p11
                            try clear p13
                            try clear p132
                            try clear p133
                            try clear p135
                            try clear p2
                            try clear p27
                            try clear p30
                            try clear p34
                            try clear p37
                            try clear p41
                            try clear p44
                            try clear p6
                            try clear q1
                            try clear q11
                            try clear q13
                            try clear q132
                            try clear q133
                            try clear q135
                            try clear q19
                            try clear q27
                            try clear q30
                            try clear q34
                            try clear q37
                            try clear q41
                            try clear q44
                            obtain ⟨x8_3, x9_3, x68_3, rfl, HA, HK3, HO_8, HO_9, HO_66, HB⟩ := hrel
                            cases gk with
                            | zero => exact absurd HA.out (by simp [term_Arena_Term.l2])
                            | succ k3 =>
                              have H := HA.out
                              clear HA
                              simp only [term_Arena_Term.l2] at H
                              by_cases c52 : x68_3 < (x5_2.length : Int)
                              · rw [if_pos c52] at H
                                have c52b0 : decide (x68_3 < (x5_2.length : Int)) = true := decide_eq_true c52
                                clear c52
                                by_cases c53 : 0 ≤ x68_3
                                · rw [if_pos c53] at H
                                  have c53b0 : decide (0 ≤ x68_3) = true := decide_eq_true c53
                                  clear c53
                                  by_cases c54 : x68_3 < (x5_2.length : Int)
                                  · rw [if_pos c54] at H
                                    have c54b0 : decide (x68_3 < (x5_2.length : Int)) = true := decide_eq_true c54
                                    clear c54
                                    obtain ⟨bq55, hbq55⟩ : ∃ b_ : Bool, b_ = (rdOf false x5_2 x68_3) := ⟨_, rfl⟩
                                    replace H : (if bq55 = true then (if x68_3 < (x8_3.length : Int) then ((some (x8_3.set (x68_3 : Int).toNat (x9_3.length : Int) : List Int)).bind fun y143 => (if x68_3 < (l0.length : Int) then ((term_moved.f k3 ((rd_T32 l0 x68_3).f0) ((rd_T32 l0 x68_3).f1) ((rd_T32 l0 x68_3).f2) ((rd_T32 l0 x68_3).f3.f0) ((rd_T32 l0 x68_3).f3.f1) ((rd_T32 l0 x68_3).f3.f2) y143).bind fun bt145 => (if x9_3.length < 2932031007402 then (term_Arena_Term.l2 k3 l0 y143 (x9_3 ++ [(⟨bt145.1, bt145.2.1, bt145.2.2.1, (⟨bt145.2.2.2.1, bt145.2.2.2.2.1, bt145.2.2.2.2.2⟩ : S30)⟩ : S32)]) x5_2 (x5_2.length : Int) (wrap64 (x68_3 + 1))) else (none))) else (none))) else (none)) else (term_Arena_Term.l2 k3 l0 x8_3 x9_3 x5_2 (x5_2.length : Int) (wrap64 (x68_3 + 1)))) = some r := by rw [← hbq55] at H; exact H
                                    have Nbq55 := Aside0.mk hbq55
                                    clear hbq55
                                    by_cases c56 : bq55 = true
                                    · subst c56
                                      have H1 : (if x68_3 < (x8_3.length : Int) then ((some (x8_3.set (x68_3 : Int).toNat (x9_3.length : Int) : List Int)).bind fun y143 => (if x68_3 < (l0.length : Int) then ((term_moved.f k3 ((rd_T32 l0 x68_3).f0) ((rd_T32 l0 x68_3).f1) ((rd_T32 l0 x68_3).f2) ((rd_T32 l0 x68_3).f3.f0) ((rd_T32 l0 x68_3).f3.f1) ((rd_T32 l0 x68_3).f3.f2) y143).bind fun bt145 => (if x9_3.length < 2932031007402 then (term_Arena_Term.l2 k3 l0 y143 (x9_3 ++ [(⟨bt145.1, bt145.2.1, bt145.2.2.1, (⟨bt145.2.2.2.1, bt145.2.2.2.2.1, bt145.2.2.2.2.2⟩ : S30)⟩ : S32)]) x5_2 (x5_2.length : Int) (wrap64 (x68_3 + 1))) else (none))) else (none))) else (none)) = some r := by rw [if_pos rfl] at H; exact H
                                      clear H
                                      have H := H1
                                      clear H1
                                      by_cases c57 : x68_3 < (x8_3.length : Int)
                                      · rw [if_pos c57] at H
                                        have c57b0 : decide (x68_3 < (x8_3.length : Int)) = true := decide_eq_true c57
                                        clear c57
                                        obtain ⟨y143, hy143⟩ : ∃ y_ : List Int, y_ = (x8_3.set (x68_3 : Int).toNat (x9_3.length : Int)) := ⟨_, rfl⟩
                                        replace H : (if x68_3 < (l0.length : Int) then ((term_moved.f k3 ((rd_T32 l0 x68_3).f0) ((rd_T32 l0 x68_3).f1) ((rd_T32 l0 x68_3).f2) ((rd_T32 l0 x68_3).f3.f0) ((rd_T32 l0 x68_3).f3.f1) ((rd_T32 l0 x68_3).f3.f2) y143).bind fun bt145 => (if x9_3.length < 2932031007402 then (term_Arena_Term.l2 k3 l0 y143 (x9_3 ++ [(⟨bt145.1, bt145.2.1, bt145.2.2.1, (⟨bt145.2.2.2.1, bt145.2.2.2.2.1, bt145.2.2.2.2.2⟩ : S30)⟩ : S32)]) x5_2 (x5_2.length : Int) (wrap64 (x68_3 + 1))) else (none))) else (none)) = some r := by first | (rw [hy143]; with_reducible exact H) | (have H2_ := (Option.bind_some _ _).symm.trans H; rw [hy143]; with_reducible exact H2_) | (have H2_ := (Option.bind_some _ _).symm.trans H; with_reducible exact H2_) | with_reducible exact H | (rw [hy143]; exact H) | exact H
                                        have Ny143 := Aside0.mk hy143
                                        clear hy143
                                        by_cases c59 : x68_3 < (l0.length : Int)
                                        · rw [if_pos c59] at H
                                          have c59b0 : decide (x68_3 < (l0.length : Int)) = true := decide_eq_true c59
                                          clear c59
                                          replace H := Option.bind_eq_some_iff.mp H
                                          obtain ⟨⟨t145, t146, t147, t148, t149, t150⟩, A600, H⟩ := H
                                          replace H : (if x9_3.length < 2932031007402 then (term_Arena_Term.l2 k3 l0 y143 (x9_3 ++ [(⟨t145, t146, t147, (⟨t148, t149, t150⟩ : S30)⟩ : S32)]) x5_2 (x5_2.length : Int) (wrap64 (x68_3 + 1))) else (none)) = some r := H
                                          have A60 := Aside0.mk A600
                                          clear A600
                                          by_cases c61 : x9_3.length < 2932031007402
                                          · rw [if_pos c61] at H
                                            have LMc61 := Aside0.mk c61
                                            clear c61
                                            obtain ⟨y151, hy151⟩ : ∃ y_ : List (S32), y_ = (x9_3 ++ [(⟨t145, t146, t147, (⟨t148, t149, t150⟩ : S30)⟩ : S32)]) := ⟨_, rfl⟩
                                            replace H : (term_Arena_Term.l2 k3 l0 y143 y151 x5_2 (x5_2.length : Int) (wrap64 (x68_3 + 1))) = some r := by first | (rw [hy151]; with_reducible exact H) | (have H2_ := (Option.bind_some _ _).symm.trans H; rw [hy151]; with_reducible exact H2_) | (have H2_ := (Option.bind_some _ _).symm.trans H; with_reducible exact H2_) | with_reducible exact H | (rw [hy151]; exact H) | exact H
                                            have Ny151 := Aside0.mk hy151
                                            clear hy151
                                            have H' := Aside0.mk H
                                            clear H
                                            have p142 : 0 ≤ (x68_3 : Int) := of_decide_eq_true (by first | (with_reducible assumption) | assumption)
                                            have q142 : x68_3 < (x5_2.length : Int) := of_decide_eq_true (by first | (with_reducible assumption) | assumption)
                                            obtain ⟨ad142, e142, hx142_0⟩ := Kd.at_bool (Kd.R_reads' HO_66.out).2.2 x68_3 p142 q142
                                            (try rw [← Nbq55.out] at hx142_0)
                                            obtain rfl : (⟨go11, 0, none⟩ : Addr) = ad142 := (by injection e142)
                                            (first | simp only [add_plain] at hx142_0 | simp only [add_at] at hx142_0 | simp only [Addr.add, Nat.zero_add] at hx142_0 | skip)
                                            replace p142 := eq_true p142
                                            replace q142 := eq_true q142
                                            obtain ⟨Ao62, co62, eo62⟩ := Kd.R_slice HO_9.out
                                            subst eo62
                                            have p58 : 0 ≤ (x68_3 : Int) := of_decide_eq_true (by first | (with_reducible assumption) | assumption)
                                            have q58 : (x68_3 : Int) < ((x8_3.length : Int) : Int) := of_decide_eq_true (by first | (with_reducible assumption) | assumption)
                                            obtain ⟨go58, co58, eo58, gb58, gl58, cl58, HG58⟩ := Kd.R_form HO_8.out (by omega)
                                            (first | cases eo58 | (injection eo58 with ea_ en_ ec_; (first | subst ea_ | (injection ea_ with ea_; subst ea_)); subst ec_; clear en_))
                                            have GB58 := Aside0.mk gb58
                                            have GG58 := Aside0.mk HG58
                                            clear gb58 gl58 HG58
                                            obtain ⟨hx58_0, hf58_0⟩ := Kd.R_celln 0 HO_8.out (x68_3 : Int) p58 q58
                                            replace p58 := eq_true p58
                                            replace q58 := eq_true q58
                                            have HP63 := Kd.R_putg HO_8.out (x68_3 : Int) (x9_3.length : Int)
                                            (try clear hcg)
                                            (try have hcg := (HB.out.cell (World.block_lt_of_cell? w _ HG0.out)).trans HG0.out)
                                            go_wp2_with (first | ((with_reducible refine gate_store (t := 3) (p := 78) rfl ?_); refine store_event (t := 3) (p := 78) (v := ?vo_w64) (w1 := (wr.setCell ⟨go58, (x68_3 : Int).toNat, none⟩ (.int .i64 (x9_3.length : Int)))) ?hg ?ho ?hn ?hr ?_; (case ho => rfl); (case hg => rfl); (case hn => rfl); (case hr => first | (go_simp; done) | (go_simp; rfl)); intro w64 hw; have hg : wr.grownBy w64 (some go58) := (by rw [hw]; exact HP63.2); have hp_ : Kd.R (Kd.int .i64) 3 w64 w.heap.size (fun _ => True) (.slice (some ⟨go58, 0, none⟩) x8_3.length co58) y143 := (by rw [hw, Ny143.out]; exact HP63.1); clear HP63; have n0_ := Aside0.mk (hp_); have n1_ := Aside0.mk (Kd.R_over' (v := (.slice (some ⟨go58, 0, none⟩) x8_3.length co58)) (by (with_reducible repeat (first | apply Kd.R_alloc | apply Kd.R_drewN | apply Kd.R_drew)); exact HO_9.out) (Kd.R_typed HO_8.out) (by decide) hg); have n2_ := Aside0.mk (Kd.R_over' (v := (.slice (some ⟨go58, 0, none⟩) x8_3.length co58)) (by (with_reducible repeat (first | apply Kd.R_alloc | apply Kd.R_drewN | apply Kd.R_drew)); exact HO_66.out) (Kd.R_typed HO_8.out) (by decide) hg); have n3_ := Aside0.mk ((by rw [hw]; exact below_set (HB.out) GB58.out : Below w.heap.size w w64)); clear HO_8; clear HO_9; clear HO_66; clear HB; have HO_8 := n0_; have HO_9 := n1_; have HO_66 := n2_; have HB := n3_; (try clear hcg); have hcg := (HB.out.cell (World.block_lt_of_cell? w _ HG0.out)).trans HG0.out; clear n0_ n1_ n2_ n3_; clear hg hw hp_; have p144 : 0 ≤ (x68_3 : Int) := of_decide_eq_true (by first | (with_reducible assumption) | assumption); have q144 : x68_3 < (l0.length : Int) := of_decide_eq_true (by first | (with_reducible assumption) | assumption); obtain ⟨ad144, e144, hx144_0, hx144_1, hx144_2, hx144_3, hx144_4, hx144_5⟩ := at_T32 HR0.out x68_3 p144 q144; cases e144; replace hx144_0 := (HB.out.cell (World.block_lt_of_cell? w _ hx144_0)).trans hx144_0; replace hx144_1 := (HB.out.cell (World.block_lt_of_cell? w _ hx144_1)).trans hx144_1; replace hx144_2 := (HB.out.cell (World.block_lt_of_cell? w _ hx144_2)).trans hx144_2; replace hx144_3 := (HB.out.cell (World.block_lt_of_cell? w _ hx144_3)).trans hx144_3; replace hx144_4 := (HB.out.cell (World.block_lt_of_cell? w _ hx144_4)).trans hx144_4; replace hx144_5 := (HB.out.cell (World.block_lt_of_cell? w _ hx144_5)).trans hx144_5; replace p144 := eq_true p144; replace q144 := eq_true q144) | ((with_reducible refine gate_callee (f := 30) rfl ?_); refine goesL_ (some 88) rfl rfl Try.func30 (by kernel_rfl) rfl #[.agg #[.int .i64 ((rd_T32 l0 x68_3).f0), .int .i64 ((rd_T32 l0 x68_3).f1), .int .u64 ((rd_T32 l0 x68_3).f2), .int .i64 ((rd_T32 l0 x68_3).f3.f0), .int .i64 ((rd_T32 l0 x68_3).f3.f1), .int .i64 ((rd_T32 l0 x68_3).f3.f2)], .slice (some ⟨go58, 0, none⟩) y143.length co58] rfl (by (try simp only [List.map_toArray, List.map_cons, List.map_nil]); first | done | (rw [show y143.length = x8_3.length from (Kd.R_reads' HO_8.out).1.symm] <;> rfl) | rfl | (simp only [List.length_drop, List.length_take]; rfl)) ?_; (with_reducible refine (term_moved.calls k3 ((rd_T32 l0 x68_3).f0) ((rd_T32 l0 x68_3).f1) ((rd_T32 l0 x68_3).f2) ((rd_T32 l0 x68_3).f3.f0) ((rd_T32 l0 x68_3).f3.f1) ((rd_T32 l0 x68_3).f3.f2) _ _ y143 t145 t146 t147 t148 t149 t150 _ ?side1 ?side2 A60.out).mono ?_); (case side1 => repeat (first | exact (Kd.R_reads' HO_8.out).2.2 | (with_reducible refine Kd.C_alloc ?_ _) | (with_reducible refine Kd.C_drewN ?_ _) | (with_reducible refine Kd.C_drew ?_))); (case side2 => rw [show y143.length = x8_3.length from (Kd.R_reads' HO_8.out).1.symm]; exact (Kd.R_reads' HO_8.out).2.1); rintro e w65 ⟨rfl, hb⟩; refine ⟨_, rfl, ?_⟩; have n0_ := Aside0.mk (Kd.R_below (by (with_reducible repeat (first | apply Kd.R_alloc | apply Kd.R_drewN | apply Kd.R_drew)); exact HO_8.out) hb); have n1_ := Aside0.mk (Kd.R_below (by (with_reducible repeat (first | apply Kd.R_alloc | apply Kd.R_drewN | apply Kd.R_drew)); exact HO_9.out) hb); have n2_ := Aside0.mk (Kd.R_below (by (with_reducible repeat (first | apply Kd.R_alloc | apply Kd.R_drewN | apply Kd.R_drew)); exact HO_66.out) hb); have n3_ := Aside0.mk (below_step (by repeat (first | (with_reducible first | exact HB.out | apply below_alloc | apply pw_below_drewN | apply below_drew1) | exact HB.out)) hb); clear HO_8; clear HO_9; clear HO_66; clear HB; have HO_8 := n0_; have HO_9 := n1_; have HO_66 := n2_; have HB := n3_; (try clear hcg); have hcg := (HB.out.cell (World.block_lt_of_cell? w _ HG0.out)).trans HG0.out; clear n0_ n1_ n2_ n3_; (try clear hb); (try clear hb2); (try clear hk); (try clear hi)) | ((with_reducible refine gate_builtin (b := .append) (xs := #[.tmp 79, .tmp 89]) rfl ?_); (try (refine gate_guard (by rfl) ?_; dsimp only)); at_builtin; refine Kd.R_append k32 (w0 := w) w.heap.size rfl (.tmp 79) (.tmp 89) 22 32 (.agg #[(.int .i64 0), (.int .i64 0), (.int .u64 0), (.int .i64 0), (.int .i64 0), (.int .i64 0)]) 48 rfl Try.underlying22 info32 rfl (by decide) (by omega) (.slice Ao62 x9_3.length co62) x9_3 (⟨t145, t146, t147, (⟨t148, t149, t150⟩ : S30)⟩ : S32) [.int .i64 t145, .int .i64 t146, .int .u64 t147, .int .i64 t148, .int .i64 t149, .int .i64 t150] (fun _ => True) (fun _ => False) rfl rfl ?aP (fun _ hk => hk.elim) ?aF ?aO ?aB ?aS ?aL ?_; (case aP => exact k32_mkM _ _ _ (⟨t145, t146, t147, (⟨t148, t149, t150⟩ : S30)⟩ : S32)); (case aB => exact (by repeat (first | (with_reducible first | exact HB.out | apply below_alloc | apply pw_below_drewN | apply below_drew1) | exact HB.out))); (case aF => exact (fun _ _ => trivial)); (case aO => exact (by (with_reducible repeat (first | apply Kd.R_alloc | apply Kd.R_drewN | apply Kd.R_drew)); exact HO_9.out)); (case aS => exact (below_size (by repeat (first | (with_reducible first | exact HB.out | apply below_alloc | apply pw_below_drewN | apply below_drew1) | exact HB.out)))); (case aL => have := LMc61.out; omega); intro v152 w66 ho hb hg hat; rw [← Ny151.out] at ho; have n0_ := Aside0.mk (Kd.R_over' (by (with_reducible repeat (first | apply Kd.R_alloc | apply Kd.R_drewN | apply Kd.R_drew)); exact HO_8.out) (Kd.R_typed (by (with_reducible repeat (first | apply Kd.R_alloc | apply Kd.R_drewN | apply Kd.R_drew)); exact HO_9.out)) (by decide) hg); have n1_ := Aside0.mk (Kd.R_over' (by (with_reducible repeat (first | apply Kd.R_alloc | apply Kd.R_drewN | apply Kd.R_drew)); exact HO_66.out) (Kd.R_typed (by (with_reducible repeat (first | apply Kd.R_alloc | apply Kd.R_drewN | apply Kd.R_drew)); exact HO_9.out)) (by decide) hg); have n2_ := Aside0.mk (hb); have n3_ := Aside0.mk (ho); clear HO_8; clear HO_66; clear HB; clear HO_9; have HO_8 := n0_; have HO_66 := n1_; have HB := n2_; (try clear hcg); have hcg := (HB.out.cell (World.block_lt_of_cell? w _ HG0.out)).trans HG0.out; have HO153 := n3_; clear n0_ n1_ n2_ n3_; clear ho hb hg hat))
                                            go_roundg k3
                                            case measure => have := HJ2.out; have := HK2.out; have := HK3.out; omega
                                            case rel => exact ⟨(y143), (y151), (wrap64 (x68_3 + 1)), (by first | rfl | (simp; done) | (simp [*]; done)), H', ⟨by have := HJ2.out; have := HK2.out; have := HK3.out; omega⟩, ⟨by (try simp only [hl5_2]); (with_reducible repeat (first | apply Kd.R_alloc | apply Kd.R_drewN | apply Kd.R_drew)); exact HO_8.out⟩, ⟨by (try simp only [hl5_2]); (with_reducible repeat (first | apply Kd.R_alloc | apply Kd.R_drewN | apply Kd.R_drew)); exact HO153.out⟩, ⟨by (try simp only [hl5_2]); (with_reducible repeat (first | apply Kd.R_alloc | apply Kd.R_drewN | apply Kd.R_drew)); exact HO_66.out⟩, ⟨by repeat (first | (with_reducible first | exact HB.out | apply below_alloc | apply pw_below_drewN | apply below_drew1) | exact HB.out)⟩⟩
                                          · rw [if_neg c61] at H
                                            exact absurd H (by simp)
                                        · rw [if_neg c59] at H
                                          exact absurd H (by simp)
                                      · rw [if_neg c57] at H
                                        exact absurd H (by simp)
                                    · replace c56 := Bool.eq_false_iff.mpr c56
                                      subst c56
                                      have H1 : (term_Arena_Term.l2 k3 l0 x8_3 x9_3 x5_2 (x5_2.length : Int) (wrap64 (x68_3 + 1))) = some r := by rw [if_neg (show ¬ (false = true) by decide)] at H; exact H
                                      clear H
                                      have H := H1
                                      clear H1
                                      have H' := Aside0.mk H
                                      clear H
                                      have p142 : 0 ≤ (x68_3 : Int) := of_decide_eq_true (by first | (with_reducible assumption) | assumption)
                                      have q142 : x68_3 < (x5_2.length : Int) := of_decide_eq_true (by first | (with_reducible assumption) | assumption)
                                      obtain ⟨ad142, e142, hx142_0⟩ := Kd.at_bool (Kd.R_reads' HO_66.out).2.2 x68_3 p142 q142
                                      (try rw [← Nbq55.out] at hx142_0)
                                      obtain rfl : (⟨go11, 0, none⟩ : Addr) = ad142 := (by injection e142)
                                      (first | simp only [add_plain] at hx142_0 | simp only [add_at] at hx142_0 | simp only [Addr.add, Nat.zero_add] at hx142_0 | skip)
                                      replace p142 := eq_true p142
                                      replace q142 := eq_true q142
                                      (try clear hcg)
                                      (try have hcg := (HB.out.cell (World.block_lt_of_cell? w _ HG0.out)).trans HG0.out)
                                      go_wp2
                                      go_roundg k3
                                      case measure => have := HJ2.out; have := HK2.out; have := HK3.out; omega
                                      case rel => exact ⟨(x8_3), (x9_3), (wrap64 (x68_3 + 1)), (by first | rfl | (simp; done) | (simp [*]; done)), H', ⟨by have := HJ2.out; have := HK2.out; have := HK3.out; omega⟩, ⟨by (try simp only [hl5_2]); (with_reducible repeat (first | apply Kd.R_alloc | apply Kd.R_drewN | apply Kd.R_drew)); exact HO_8.out⟩, ⟨by (try simp only [hl5_2]); (with_reducible repeat (first | apply Kd.R_alloc | apply Kd.R_drewN | apply Kd.R_drew)); exact HO_9.out⟩, ⟨by (try simp only [hl5_2]); (with_reducible repeat (first | apply Kd.R_alloc | apply Kd.R_drewN | apply Kd.R_drew)); exact HO_66.out⟩, ⟨by repeat (first | (with_reducible first | exact HB.out | apply below_alloc | apply pw_below_drewN | apply below_drew1) | exact HB.out)⟩⟩
                                  · rw [if_neg c54] at H
                                    exact absurd H (by simp)
                                · rw [if_neg c53] at H
                                  exact absurd H (by simp)
                              · rw [if_neg c52] at H
                                have c52b0 : decide (x68_3 < (x5_2.length : Int)) = false := decide_eq_false c52
                                clear c52
                                obtain rfl := Option.some.inj H
                                (try clear hcg)
                                (try have hcg := (HB.out.cell (World.block_lt_of_cell? w _ HG0.out)).trans HG0.out)
                                go_wp2
                                go_ret
                                exact ⟨_, by first | rfl | (simp [errW_none, errW_some] <;> rfl) | (simp only [← hji6, ← hji47]; first | rfl | (simp [errW_none, errW_some] <;> rfl)) | (simp [*, errW_none, errW_some] <;> rfl), by (with_reducible repeat (first | apply Kd.R_alloc | apply Kd.R_drewN | apply Kd.R_drew)); exact HO_9.out, by repeat (first | (with_reducible first | exact HB.out | apply below_alloc | apply pw_below_drewN | apply below_drew1) | exact HB.out)⟩
                        · rw [if_neg c49] at H
                          exact absurd H (by simp)
                      · rw [if_neg c48] at H
                        exact absurd H (by simp)
              · rw [if_neg c10] at H
                exact absurd H (by simp)
            · rw [if_neg c9] at H
              exact absurd H (by simp)
          · rw [if_neg c8] at H
            exact absurd H (by simp)
        · rw [if_neg c7] at H
          exact absurd H (by simp)

end Go.Proofs.Ytkindfbbklkjdaa.P
