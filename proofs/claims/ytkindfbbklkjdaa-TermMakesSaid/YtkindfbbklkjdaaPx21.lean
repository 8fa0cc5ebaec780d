/- What Go functions compute, and their walks: written by a program of this session (a turned copy of the kit's print) out of the translation. -/
import Derived.Test.YtkindfbbklkjdaaPx0
import Derived.Test.YtkindfbbklkjdaaPx13
import Derived.Test.YtkindfbbklkjdaaPx20
namespace Go.Proofs.Ytkindfbbklkjdaa.P
open Go.RowKit Go.Proofs.YtkindfbbklkjdaaW.PrintWords Go.Proofs.YtkindfbbklkjdaaW.PrintLast Go.Proofs.YtkindfbbklkjdaaW.PrintMore
attribute [local go_sem] max2_int min2_int max_two min_two max_three min_three max_four min_four   -- for this text's walks alone
set_option linter.unusedVariables false
set_option linter.unusedSimpArgs false

/-! ### backreachref06_Term: function 18 -/
mutual
def backreachref06_Term.j0 : Nat → List (S32) → Int → Bool → Option ((List (S32)))
  | 0, _, _, _ => none
  | k + 1, x0, x1, x18 => if x18 = true then (some ([] : List (S32))) else (if 0 ≤ (x0.length : Int) then (if ((x0.length : Int) : Int).toNat ≤ 281474976710656 then ((some (List.replicate ((x0.length : Int) : Int).toNat false : List Bool)).bind fun y163 => (if 0 ≤ x1 then (if x1 < (y163.length : Int) then (backreachref06_Term.l0 k x0 x1 (y163.set (x1 : Int).toNat true) x1) else (none)) else (none))) else (none)) else (none))
def backreachref06_Term.l0 : Nat → List (S32) → Int → List Bool → Int → Option ((List (S32)))
  | 0, _, _, _, _ => none
  | k + 1, x0, x1, x5, x6 => if x6 ≥ 0 then (backreachref06_Term.l1 k x0 x1 x5 x6 0) else (if 0 ≤ (x0.length : Int) then (if ((x0.length : Int) : Int).toNat ≤ 35184372088832 then (backreachref06_Term.l2 k x0 x1 x5 (List.replicate ((x0.length : Int) : Int).toNat 0) ([] : List (S32)) 0) else (none)) else (none))
def backreachref06_Term.l1 : Nat → List (S32) → Int → List Bool → Int → Int → Option ((List (S32)))
  | 0, _, _, _, _, _ => none
  | k + 1, x0, x1, x5, x6, x7 => if 0 ≤ x6 then (if x6 < (x5.length : Int) then (if rdOf false x5 x6 = true then (if x6 < (x0.length : Int) then ((backreachref06_Kids.f k ((rd_T32 x0 x6).f0)).bind fun t169 => (if x7 < t169 then (if x7 = 0 then (if 0 ≤ ((rd_T32 x0 x6).f3.f0) then (if ((rd_T32 x0 x6).f3.f0) < (x5.length : Int) then (backreachref06_Term.l1 k x0 x1 (x5.set (((rd_T32 x0 x6).f3.f0) : Int).toNat true) x6 (wrap64 (x7 + 1))) else (none)) else (none)) else (if x7 = 1 then (if 0 ≤ ((rd_T32 x0 x6).f3.f1) then (if ((rd_T32 x0 x6).f3.f1) < (x5.length : Int) then (backreachref06_Term.l1 k x0 x1 (x5.set (((rd_T32 x0 x6).f3.f1) : Int).toNat true) x6 (wrap64 (x7 + 1))) else (none)) else (none)) else (if x7 = 2 then (if 0 ≤ ((rd_T32 x0 x6).f3.f2) then (if ((rd_T32 x0 x6).f3.f2) < (x5.length : Int) then (backreachref06_Term.l1 k x0 x1 (x5.set (((rd_T32 x0 x6).f3.f2) : Int).toNat true) x6 (wrap64 (x7 + 1))) else (none)) else (none)) else (none)))) else (backreachref06_Term.l0 k x0 x1 x5 (wrap64 (x6 - 1))))) else (none)) else (backreachref06_Term.l0 k x0 x1 x5 (wrap64 (x6 - 1)))) else (none)) else (none)
def backreachref06_Term.l2 : Nat → List (S32) → Int → List Bool → List Int → List (S32) → Int → Option ((List (S32)))
  | 0, _, _, _, _, _, _ => none
  | k + 1, x0, x1, x5, x8, x9, x10 => if x10 ≤ x1 then (if 0 ≤ x10 then (if x10 < (x5.length : Int) then (if rdOf false x5 x10 = true then (if x10 < (x8.length : Int) then ((some (x8.set (x10 : Int).toNat (x9.length : Int) : List Int)).bind fun y178 => (if x10 < (x0.length : Int) then ((backreachref06_told.f k ((rd_T32 x0 x10).f0) ((rd_T32 x0 x10).f1) ((rd_T32 x0 x10).f2) ((rd_T32 x0 x10).f3.f0) ((rd_T32 x0 x10).f3.f1) ((rd_T32 x0 x10).f3.f2) y178).bind fun bt180 => (if x9.length < 2932031007402 then (backreachref06_Term.l2 k x0 x1 x5 y178 (x9 ++ [(⟨bt180.1, bt180.2.1, bt180.2.2.1, (⟨bt180.2.2.2.1, bt180.2.2.2.2.1, bt180.2.2.2.2.2⟩ : S30)⟩ : S32)]) (wrap64 (x10 + 1))) else (none))) else (none))) else (none)) else (backreachref06_Term.l2 k x0 x1 x5 x8 x9 (wrap64 (x10 + 1)))) else (none)) else (none)) else (some x9)
end
def backreachref06_Term.f (k : Nat) (l0 : List (S32)) (a1 : Int) : Option ((List (S32))) := if a1 < 0 then (backreachref06_Term.j0 k l0 a1 true) else (backreachref06_Term.j0 k l0 a1 (decide (a1 ≥ (l0.length : Int))))
theorem backreachref06_Term.mono_l : ∀ k, (∀ y0 y1 y2, LeO (backreachref06_Term.j0 k y0 y1 y2) (backreachref06_Term.j0 (k + 1) y0 y1 y2)) ∧ (∀ y0 y1 y2 y3, LeO (backreachref06_Term.l0 k y0 y1 y2 y3) (backreachref06_Term.l0 (k + 1) y0 y1 y2 y3)) ∧ (∀ y0 y1 y2 y3 y4, LeO (backreachref06_Term.l1 k y0 y1 y2 y3 y4) (backreachref06_Term.l1 (k + 1) y0 y1 y2 y3 y4)) ∧ (∀ y0 y1 y2 y3 y4 y5, LeO (backreachref06_Term.l2 k y0 y1 y2 y3 y4 y5) (backreachref06_Term.l2 (k + 1) y0 y1 y2 y3 y4 y5))
  | 0 => ⟨fun _ _ _ r h => by simp [backreachref06_Term.j0] at h, fun _ _ _ _ r h => by simp [backreachref06_Term.l0] at h, fun _ _ _ _ _ r h => by simp [backreachref06_Term.l1] at h, fun _ _ _ _ _ _ r h => by simp [backreachref06_Term.l2] at h⟩
  | k + 1 => by
    obtain ⟨ih0, ih1, ih2, ih3⟩ := backreachref06_Term.mono_l k
    refine ⟨?_, ?_, ?_, ?_⟩
    · intro y0 y1 y2
      unfold backreachref06_Term.j0
      repeat' first
      | (with_reducible exact ih0 _ _ _)
      | (with_reducible exact ih1 _ _ _ _)
      | (with_reducible exact ih2 _ _ _ _ _)
      | (with_reducible exact ih3 _ _ _ _ _ _)
      | (with_reducible exact backreachref06_Kids.mono _ _)
      | (with_reducible exact backreachref06_told.mono _ _ _ _ _ _ _ _)
      | (with_reducible exact LeO.refl _)
      | (with_reducible exact LeO.none _)
      | (with_reducible refine LeO.ite ?_ ?_)
      | (with_reducible refine LeO.bind ?_ (fun _ => ?_))
      | exact ih0 _ _ _
      | exact ih1 _ _ _ _
      | exact ih2 _ _ _ _ _
      | exact ih3 _ _ _ _ _ _
      | exact backreachref06_Kids.mono _ _
      | exact backreachref06_told.mono _ _ _ _ _ _ _ _
      | exact LeO.none _
      | refine LeO.ite ?_ ?_
      | refine LeO.bind ?_ (fun _ => ?_)
    · intro y0 y1 y2 y3
      unfold backreachref06_Term.l0
      repeat' first
      | (with_reducible exact ih0 _ _ _)
      | (with_reducible exact ih1 _ _ _ _)
      | (with_reducible exact ih2 _ _ _ _ _)
      | (with_reducible exact ih3 _ _ _ _ _ _)
      | (with_reducible exact backreachref06_Kids.mono _ _)
      | (with_reducible exact backreachref06_told.mono _ _ _ _ _ _ _ _)
      | (with_reducible exact LeO.refl _)
      | (with_reducible exact LeO.none _)
      | (with_reducible refine LeO.ite ?_ ?_)
      | (with_reducible refine LeO.bind ?_ (fun _ => ?_))
      | exact ih0 _ _ _
      | exact ih1 _ _ _ _
      | exact ih2 _ _ _ _ _
      | exact ih3 _ _ _ _ _ _
      | exact backreachref06_Kids.mono _ _
      | exact backreachref06_told.mono _ _ _ _ _ _ _ _
      | exact LeO.none _
      | refine LeO.ite ?_ ?_
      | refine LeO.bind ?_ (fun _ => ?_)
    · intro y0 y1 y2 y3 y4
      unfold backreachref06_Term.l1
      repeat' first
      | (with_reducible exact ih0 _ _ _)
      | (with_reducible exact ih1 _ _ _ _)
      | (with_reducible exact ih2 _ _ _ _ _)
      | (with_reducible exact ih3 _ _ _ _ _ _)
      | (with_reducible exact backreachref06_Kids.mono _ _)
      | (with_reducible exact backreachref06_told.mono _ _ _ _ _ _ _ _)
      | (with_reducible exact LeO.refl _)
      | (with_reducible exact LeO.none _)
      | (with_reducible refine LeO.ite ?_ ?_)
      | (with_reducible refine LeO.bind ?_ (fun _ => ?_))
      | exact ih0 _ _ _
      | exact ih1 _ _ _ _
      | exact ih2 _ _ _ _ _
      | exact ih3 _ _ _ _ _ _
      | exact backreachref06_Kids.mono _ _
      | exact backreachref06_told.mono _ _ _ _ _ _ _ _
      | exact LeO.none _
      | refine LeO.ite ?_ ?_
      | refine LeO.bind ?_ (fun _ => ?_)
    · intro y0 y1 y2 y3 y4 y5
      unfold backreachref06_Term.l2
      repeat' first
      | (with_reducible exact ih0 _ _ _)
      | (with_reducible exact ih1 _ _ _ _)
      | (with_reducible exact ih2 _ _ _ _ _)
      | (with_reducible exact ih3 _ _ _ _ _ _)
      | (with_reducible exact backreachref06_Kids.mono _ _)
      | (with_reducible exact backreachref06_told.mono _ _ _ _ _ _ _ _)
      | (with_reducible exact LeO.refl _)
      | (with_reducible exact LeO.none _)
      | (with_reducible refine LeO.ite ?_ ?_)
      | (with_reducible refine LeO.bind ?_ (fun _ => ?_))
      | exact ih0 _ _ _
      | exact ih1 _ _ _ _
      | exact ih2 _ _ _ _ _
      | exact ih3 _ _ _ _ _ _
      | exact backreachref06_Kids.mono _ _
      | exact backreachref06_told.mono _ _ _ _ _ _ _ _
      | exact LeO.none _
      | refine LeO.ite ?_ ?_
      | refine LeO.bind ?_ (fun _ => ?_)
theorem backreachref06_Term.mono : ∀ a0 a1 k, LeO (backreachref06_Term.f k a0 a1) (backreachref06_Term.f (k + 1) a0 a1) := by
  intro a0 a1 k
  obtain ⟨ih0, ih1, ih2, ih3⟩ := backreachref06_Term.mono_l k
  unfold backreachref06_Term.f
  repeat' first
      | (with_reducible exact ih0 _ _ _)
      | (with_reducible exact ih1 _ _ _ _)
      | (with_reducible exact ih2 _ _ _ _ _)
      | (with_reducible exact ih3 _ _ _ _ _ _)
      | (with_reducible exact backreachref06_Kids.mono _ _)
      | (with_reducible exact backreachref06_told.mono _ _ _ _ _ _ _ _)
      | (with_reducible exact LeO.refl _)
      | (with_reducible exact LeO.none _)
      | (with_reducible refine LeO.ite ?_ ?_)
      | (with_reducible refine LeO.bind ?_ (fun _ => ?_))
      | exact ih0 _ _ _
      | exact ih1 _ _ _ _
      | exact ih2 _ _ _ _ _
      | exact ih3 _ _ _ _ _ _
      | exact backreachref06_Kids.mono _ _
      | exact backreachref06_told.mono _ _ _ _ _ _ _ _
      | exact LeO.none _
      | refine LeO.ite ?_ ?_
      | refine LeO.bind ?_ (fun _ => ?_)
set_option maxHeartbeats 8000000 in
set_option maxRecDepth 100000 in
theorem backreachref06_Term.calls (k : Nat) (A0 : Option Addr) (c0 : Nat) (l0 : List (S32)) (a1 : Int) (r : List (S32)) (w : World) (hr0 : Kd.C k32 w A0 l0.length l0) (hc0 : l0.length ≤ c0) (h : backreachref06_Term.f k l0 a1 = some r) :
    Calls Try.prog 18 #[.slice A0 l0.length c0, .int .i64 a1] w fun e w' => ∃ v0_ : Value, e = .returned (v0_) ∧ Kd.R k32 32 w' w.heap.size (fun _ => True) v0_ r ∧ Below w.heap.size w w' := by
  have hu32 := Try.underlying32
  have HR0 := Aside0.mk hr0
  have HC0 := Aside0.mk hc0
  clear hr0 hc0
  have HB := Aside0.mk (Below.refl w.heap.size w)
  have H : (if a1 < 0 then (backreachref06_Term.j0 k l0 a1 true) else (backreachref06_Term.j0 k l0 a1 (decide (a1 ≥ (l0.length : Int))))) = some r := h
  clear h
  have HC3 := Aside0.mk H
  clear H
  go_enter Try.func18, Try.ntmps18
  go_upto_region 1 with (fail)
  go_cut [18] (fun v18 wc => ∃ (kq : Nat) (x18_2 : Bool), v18 = .bool x18_2 ∧ Aside0 (backreachref06_Term.j0 kq l0 a1 x18_2 = some r) ∧ Aside0 (kq ≤ k) ∧ Aside0 (Below w.heap.size w wc))
  case first =>
    have H := HC3.out
    clear HC3
    by_cases c4 : a1 < 0
    · rw [if_pos c4] at H
      have c4b0 : decide (a1 < 0) = true := decide_eq_true c4
      clear c4
      (first | rw [c4b0] | (simp only [i64_w, i32_w]; rw [c4b0]) | skip)
      have H' := Aside0.mk H
      clear H
      go_wp2
      go_meet
      case rel => exact ⟨_, (true), (by first | rfl | (simp; done) | (simp [*]; done)), H', ⟨by first | omega | exact Nat.le_refl _⟩, ⟨by repeat (first | (with_reducible first | exact HB.out | apply below_alloc | apply pw_below_drewN | apply below_drew1) | exact HB.out)⟩⟩
    · rw [if_neg c4] at H
      have c4b0 : decide (a1 < 0) = false := decide_eq_false c4
      clear c4
      (first | rw [c4b0] | (simp only [i64_w, i32_w]; rw [c4b0]) | skip)
      have H' := Aside0.mk H
      clear H
      go_wp2
      go_meet
      case rel => exact ⟨_, (decide (a1 ≥ (l0.length : Int))), (by first | rfl | (simp; done) | (simp [*]; done)), H', ⟨by first | omega | exact Nat.le_refl _⟩, ⟨by repeat (first | (with_reducible first | exact HB.out | apply below_alloc | apply pw_below_drewN | apply below_drew1) | exact HB.out)⟩⟩
  case rest =>
    clear HC3
    try clear c1
    try clear p2
    try clear c4
    try clear c4b0
    obtain ⟨kq, x18_2, rfl, HA, HJ2, HB⟩ := hcut
    cases kq with
    | zero => exact absurd HA.out (by simp [backreachref06_Term.j0])
    | succ kj2 =>
      have H := HA.out
      clear HA
      simp only [backreachref06_Term.j0] at H
      by_cases c5 : x18_2 = true
      · subst c5
        have H1 : (some ([] : List (S32))) = some r := by rw [if_pos rfl] at H; exact H
        clear H
        have H := H1
        clear H1
        obtain rfl := Option.some.inj H
        go_wp2
        go_ret
        exact ⟨_, by first | rfl | (simp [errW_none, errW_some] <;> rfl) | (simp [*, errW_none, errW_some] <;> rfl), by first | exact Kd.R_nil _ _ _ _ _ | exact Kd.N_nil _ _ _ _ _ | exact Kd.V_nil _ _ _ _ _ | exact Kd.Q_nil _ _ _ _ _ | exact Kd.S_nil _ _ _ _ _, by repeat (first | (with_reducible first | exact HB.out | apply below_alloc | apply pw_below_drewN | apply below_drew1) | exact HB.out)⟩
      · replace c5 := Bool.eq_false_iff.mpr c5
        subst c5
        have H1 : (if 0 ≤ (l0.length : Int) then (if ((l0.length : Int) : Int).toNat ≤ 281474976710656 then ((some (List.replicate ((l0.length : Int) : Int).toNat false : List Bool)).bind fun y163 => (if 0 ≤ a1 then (if a1 < (y163.length : Int) then (backreachref06_Term.l0 kj2 l0 a1 (y163.set (a1 : Int).toNat true) a1) else (none)) else (none))) else (none)) else (none)) = some r := by rw [if_neg (show ¬ (false = true) by decide)] at H; exact H
        clear H
        have H := H1
        clear H1
        by_cases c6 : 0 ≤ (l0.length : Int)
        · rw [if_pos c6] at H
          have c6b0 := eq_true c6
          have c6b1 : decide (0 ≤ (l0.length : Int)) = true := decide_eq_true c6
          clear c6
          by_cases c7 : ((l0.length : Int) : Int).toNat ≤ 281474976710656
          · rw [if_pos c7] at H
            have c7b0 := eq_true c7
            have c7b1 : decide (((l0.length : Int) : Int).toNat ≤ 281474976710656) = true := decide_eq_true c7
            clear c7
            obtain ⟨y163, hy163⟩ : ∃ y_ : List Bool, y_ = (List.replicate ((l0.length : Int) : Int).toNat false) := ⟨_, rfl⟩
            replace H : (if 0 ≤ a1 then (if a1 < (y163.length : Int) then (backreachref06_Term.l0 kj2 l0 a1 (y163.set (a1 : Int).toNat true) a1) else (none)) else (none)) = some r := by first | (rw [hy163]; with_reducible exact H) | (have H2_ := (Option.bind_some _ _).symm.trans H; rw [hy163]; with_reducible exact H2_) | (have H2_ := (Option.bind_some _ _).symm.trans H; with_reducible exact H2_) | with_reducible exact H | (rw [hy163]; exact H) | exact H
            have Ny163 := Aside0.mk hy163
            clear hy163
            by_cases c8 : 0 ≤ a1
            · rw [if_pos c8] at H
              have c8b0 : decide (0 ≤ a1) = true := decide_eq_true c8
              clear c8
              by_cases c9 : a1 < (y163.length : Int)
              · rw [if_pos c9] at H
                have c9b0 : decide (a1 < (y163.length : Int)) = true := decide_eq_true c9
                clear c9
                obtain ⟨y166, hy166⟩ : ∃ y_ : List Bool, y_ = (y163.set (a1 : Int).toNat true) := ⟨_, rfl⟩
                replace H : (backreachref06_Term.l0 kj2 l0 a1 y166 a1) = some r := by first | (rw [hy166]; with_reducible exact H) | (have H2_ := (Option.bind_some _ _).symm.trans H; rw [hy166]; with_reducible exact H2_) | (have H2_ := (Option.bind_some _ _).symm.trans H; with_reducible exact H2_) | with_reducible exact H | (rw [hy166]; exact H) | exact H
                have Ny166 := Aside0.mk hy166
                clear hy166
                have H' := Aside0.mk H
                clear H
                go_wp2_with (first | ((with_reducible refine gate_dst (N := 21) rfl ?_); (try (refine gate_guard (by rfl) ?_; dsimp only)); refine Kd.R_make Kd.bool _ 4 rfl (N := 21) rfl 66 _ _ rfl (l0.length : Int) rfl rfl Try.underlying66 (.bool false) 1 info4 rfl (by decide) (by omega) false (ok := fun _ => True) (okp := fun _ => True) rfl (fun _ hk => hk) trivial (of_decide_eq_true (by first | (with_reducible assumption) | assumption)) (Nat.le_trans (Nat.mul_le_mul_right _ (of_decide_eq_true (by first | (with_reducible assumption) | assumption) : (l0.length : Int).toNat ≤ 281474976710656)) (by omega)) (Below.refl _ _) (Nat.le_refl _) ?_; intro v164 w11 ho12 hb hg_ hnew_; clear hg_ hnew_; (first | rw [← Ny163.out] at ho12 | (simp only [Int.reduceToNat] at ho12; rw [← Ny163.out] at ho12)); have n0_ := Aside0.mk (Kd.R_lower ho12 (below_size (by repeat (first | (with_reducible first | exact HB.out | apply below_alloc | apply pw_below_drewN | apply below_drew1) | exact HB.out)))); have n1_ := Aside0.mk (below_step (by repeat (first | (with_reducible first | exact HB.out | apply below_alloc | apply pw_below_drewN | apply below_drew1) | exact HB.out)) hb); clear HB; have HO165 := n0_; have HB := n1_; clear n0_ n1_; clear hb ho12; have p10 : 0 ≤ (a1 : Int) := of_decide_eq_true (by first | (with_reducible assumption) | assumption); have q10 : (a1 : Int) < ((y163.length : Int) : Int) := of_decide_eq_true (by first | (with_reducible assumption) | assumption); obtain ⟨go10, co10, eo10, gb10, gl10, cl10, HG10⟩ := Kd.R_form HO165.out (by omega); (first | cases eo10 | (injection eo10 with ea_ en_ ec_; (first | subst ea_ | (injection ea_ with ea_; subst ea_)); subst ec_; clear en_)); have GB10 := Aside0.mk gb10; have GG10 := Aside0.mk HG10; clear gb10 gl10 HG10; obtain ⟨hx10_0, hf10_0⟩ := Kd.R_celln false HO165.out (a1 : Int) p10 q10; replace p10 := eq_true p10; replace q10 := eq_true q10; obtain ⟨hy13_, hz13_⟩ := Kd.R_celln false HO165.out (a1 : Int) (of_decide_eq_true (by first | (with_reducible assumption) | assumption)) (of_decide_eq_true (by first | (with_reducible assumption) | assumption)); have HP13 := Kd.R_putg HO165.out (a1 : Int) true) | ((with_reducible refine gate_store (t := 4) (p := 24) rfl ?_); refine store_event (t := 4) (p := 24) (v := ?vo_w14) (w1 := (w11.setCell ⟨go10, (a1 : Int).toNat, none⟩ (.bool true))) ?hg ?ho ?hn ?hr ?_; (case ho => rfl); (case hg => rfl); (case hn => rfl); (case hr => first | (go_simp; done) | (go_simp; rfl)); intro w14 hw; have hg : w11.grownBy w14 (some go10) := (by rw [hw]; exact HP13.2); have hp_ : Kd.R Kd.bool 4 w14 w.heap.size (fun _ => True) (.slice (some ⟨go10, 0, none⟩) y163.length co10) y166 := (by rw [hw, Ny166.out]; exact HP13.1); clear HP13; have n0_ := Aside0.mk (hp_); have n1_ := Aside0.mk ((by rw [hw]; exact below_set (HB.out) GB10.out : Below w.heap.size w w14)); clear HO165; clear HB; have HO165 := n0_; have HB := n1_; clear n0_ n1_; clear hg hw hp_))
                go_loopg [6] kj2 (fun kq v6 w' => ∃ (x5_2 : List Bool) (x6_2 : Int), v6 = .int .i64 x6_2 ∧ Aside0 (backreachref06_Term.l0 kq l0 a1 x5_2 x6_2 = some r) ∧ Aside0 (kq ≤ kj2) ∧ Aside0 (Kd.R Kd.bool 4 w' w.heap.size (fun _ => True) (.slice (some ⟨go10, 0, none⟩) y163.length co10) x5_2) ∧ Aside0 (Below w.heap.size w w'))
                case atStart => exact ⟨(y166), (a1), (by first | rfl | (simp; done) | (simp [*]; done)), H', ⟨Nat.le_refl _⟩, ⟨by (with_reducible repeat (first | apply Kd.R_alloc | apply Kd.R_drewN | apply Kd.R_drew)); exact HO165.out⟩, ⟨by repeat (first | (with_reducible first | exact HB.out | apply below_alloc | apply pw_below_drewN | apply below_drew1) | exact HB.out)⟩⟩
                case round =>
                  clear H'
                  try clear c1
                  try clear p1
                  try clear q1
                  try clear hx1
                  try clear p2
                  try clear c4
                  try clear c4b0
                  try clear c5
                  try clear c6
                  try clear c6b0
                  try clear c6b1
                  try clear c7
                  try clear c7b0
                  try clear c7b1
                  try clear c8
                  try clear c8b0
                  try clear c9
                  try clear c9b0
                  try clear p10
                  try clear q10
                  try clear hx10
                  try clear hf10
                  try clear hx10_0
                  try clear p10
                  try clear p2
                  try clear q10
                  obtain ⟨x5_2, x6_2, rfl, HA, HK2, HO_5, HB⟩ := hrel
                  have hl5_2 := (Kd.R_reads' HO_5.out).1
                  rw [hl5_2] at HO_5
                  (try simp only [hl5_2])
                  cases gk with
                  | zero => exact absurd HA.out (by simp [backreachref06_Term.l0])
                  | succ k2 =>
                    have H := HA.out
                    clear HA
                    simp only [backreachref06_Term.l0] at H
                    by_cases c15 : x6_2 ≥ 0
                    · rw [if_pos c15] at H
                      have c15b0 : decide (0 ≤ x6_2) = true := decide_eq_true c15
                      clear c15
                      have H' := Aside0.mk H
                      clear H
                      go_wp2
                      go_loopg [7] k2 (fun kq v7 w' => ∃ (x5_3 : List Bool) (x7_3 : Int), v7 = .int .i64 x7_3 ∧ Aside0 (backreachref06_Term.l1 kq l0 a1 x5_3 x6_2 x7_3 = some r) ∧ Aside0 (kq ≤ k2) ∧ Aside0 (Kd.R Kd.bool 4 w' w.heap.size (fun _ => True) (.slice (some ⟨go10, 0, none⟩) x5_2.length co10) x5_3) ∧ Aside0 (Below w.heap.size w w'))
                      case atStart => exact ⟨(x5_2), (0), (by first | rfl | (simp; done) | (simp [*]; done)), H', ⟨Nat.le_refl _⟩, ⟨by (try simp only [hl5_2]); (with_reducible repeat (first | apply Kd.R_alloc | apply Kd.R_drewN | apply Kd.R_drew)); exact HO_5.out⟩, ⟨by repeat (first | (with_reducible first | exact HB.out | apply below_alloc | apply pw_below_drewN | apply below_drew1) | exact HB.out)⟩⟩
                      case round =>
                        clear H'
                        try clear c1
                        try clear p1
                        try clear q1
                        try clear hx1
                        try clear p2
                        try clear c4
                        try clear c4b0
                        try clear c5
                        try clear c6
                        try clear c6b0
                        try clear c6b1
                        try clear c7
                        try clear c7b0
                        try clear c7b1
                        try clear c8
                        try clear c8b0
                        try clear c9
                        try clear c9b0
                        try clear p10
                        try clear q10
                        try clear hx10
                        try clear hf10
                        try clear c15
                        try clear c15b0
                        try clear hx10_0
                        try clear p1
                        try clear p10
                        try clear p2
                        try clear q1
                        try clear q10
                        obtain ⟨x5_3, x7_3, rfl, HA, HK3, HO_5, HB⟩ := hrel
                        have hl5_3 := (Kd.R_reads' HO_5.out).1
                        rw [hl5_3] at HO_5
                        (try simp only [hl5_3])
                        cases gk with
                        | zero => exact absurd HA.out (by simp [backreachref06_Term.l1])
                        | succ k3 =>
                          have H := HA.out
                          clear HA
                          simp only [backreachref06_Term.l1] at H
                          by_cases c16 : 0 ≤ x6_2
                          · rw [if_pos c16] at H
                            have c16b0 : decide (0 ≤ x6_2) = true := decide_eq_true c16
                            clear c16
                            by_cases c17 : x6_2 < (x5_3.length : Int)
                            · rw [if_pos c17] at H
                              have c17b0 : decide (x6_2 < (x5_3.length : Int)) = true := decide_eq_true c17
                              clear c17
                              obtain ⟨bq18, hbq18⟩ : ∃ b_ : Bool, b_ = (rdOf false x5_3 x6_2) := ⟨_, rfl⟩
                              replace H : (if bq18 = true then (if x6_2 < (l0.length : Int) then ((backreachref06_Kids.f k3 ((rd_T32 l0 x6_2).f0)).bind fun t169 => (if x7_3 < t169 then (if x7_3 = 0 then (if 0 ≤ ((rd_T32 l0 x6_2).f3.f0) then (if ((rd_T32 l0 x6_2).f3.f0) < (x5_3.length : Int) then (backreachref06_Term.l1 k3 l0 a1 (x5_3.set (((rd_T32 l0 x6_2).f3.f0) : Int).toNat true) x6_2 (wrap64 (x7_3 + 1))) else (none)) else (none)) else (if x7_3 = 1 then (if 0 ≤ ((rd_T32 l0 x6_2).f3.f1) then (if ((rd_T32 l0 x6_2).f3.f1) < (x5_3.length : Int) then (backreachref06_Term.l1 k3 l0 a1 (x5_3.set (((rd_T32 l0 x6_2).f3.f1) : Int).toNat true) x6_2 (wrap64 (x7_3 + 1))) else (none)) else (none)) else (if x7_3 = 2 then (if 0 ≤ ((rd_T32 l0 x6_2).f3.f2) then (if ((rd_T32 l0 x6_2).f3.f2) < (x5_3.length : Int) then (backreachref06_Term.l1 k3 l0 a1 (x5_3.set (((rd_T32 l0 x6_2).f3.f2) : Int).toNat true) x6_2 (wrap64 (x7_3 + 1))) else (none)) else (none)) else (none)))) else (backreachref06_Term.l0 k3 l0 a1 x5_3 (wrap64 (x6_2 - 1))))) else (none)) else (backreachref06_Term.l0 k3 l0 a1 x5_3 (wrap64 (x6_2 - 1)))) = some r := by rw [← hbq18] at H; exact H
                              have Nbq18 := Aside0.mk hbq18
                              clear hbq18
                              by_cases c19 : bq18 = true
                              · subst c19
                                have H1 : (if x6_2 < (l0.length : Int) then ((backreachref06_Kids.f k3 ((rd_T32 l0 x6_2).f0)).bind fun t169 => (if x7_3 < t169 then (if x7_3 = 0 then (if 0 ≤ ((rd_T32 l0 x6_2).f3.f0) then (if ((rd_T32 l0 x6_2).f3.f0) < (x5_3.length : Int) then (backreachref06_Term.l1 k3 l0 a1 (x5_3.set (((rd_T32 l0 x6_2).f3.f0) : Int).toNat true) x6_2 (wrap64 (x7_3 + 1))) else (none)) else (none)) else (if x7_3 = 1 then (if 0 ≤ ((rd_T32 l0 x6_2).f3.f1) then (if ((rd_T32 l0 x6_2).f3.f1) < (x5_3.length : Int) then (backreachref06_Term.l1 k3 l0 a1 (x5_3.set (((rd_T32 l0 x6_2).f3.f1) : Int).toNat true) x6_2 (wrap64 (x7_3 + 1))) else (none)) else (none)) else (if x7_3 = 2 then (if 0 ≤ ((rd_T32 l0 x6_2).f3.f2) then (if ((rd_T32 l0 x6_2).f3.f2) < (x5_3.length : Int) then (backreachref06_Term.l1 k3 l0 a1 (x5_3.set (((rd_T32 l0 x6_2).f3.f2) : Int).toNat true) x6_2 (wrap64 (x7_3 + 1))) else (none)) else (none)) else (none)))) else (backreachref06_Term.l0 k3 l0 a1 x5_3 (wrap64 (x6_2 - 1))))) else (none)) = some r := by rw [if_pos rfl] at H; exact H
                                clear H
                                have H := H1
                                clear H1
                                by_cases c20 : x6_2 < (l0.length : Int)
                                · rw [if_pos c20] at H
                                  have c20b0 : decide (x6_2 < (l0.length : Int)) = true := decide_eq_true c20
                                  clear c20
                                  replace H := Option.bind_eq_some_iff.mp H
                                  obtain ⟨t169, A210, H⟩ := H
                                  replace H : (if x7_3 < t169 then (if x7_3 = 0 then (if 0 ≤ ((rd_T32 l0 x6_2).f3.f0) then (if ((rd_T32 l0 x6_2).f3.f0) < (x5_3.length : Int) then (backreachref06_Term.l1 k3 l0 a1 (x5_3.set (((rd_T32 l0 x6_2).f3.f0) : Int).toNat true) x6_2 (wrap64 (x7_3 + 1))) else (none)) else (none)) else (if x7_3 = 1 then (if 0 ≤ ((rd_T32 l0 x6_2).f3.f1) then (if ((rd_T32 l0 x6_2).f3.f1) < (x5_3.length : Int) then (backreachref06_Term.l1 k3 l0 a1 (x5_3.set (((rd_T32 l0 x6_2).f3.f1) : Int).toNat true) x6_2 (wrap64 (x7_3 + 1))) else (none)) else (none)) else (if x7_3 = 2 then (if 0 ≤ ((rd_T32 l0 x6_2).f3.f2) then (if ((rd_T32 l0 x6_2).f3.f2) < (x5_3.length : Int) then (backreachref06_Term.l1 k3 l0 a1 (x5_3.set (((rd_T32 l0 x6_2).f3.f2) : Int).toNat true) x6_2 (wrap64 (x7_3 + 1))) else (none)) else (none)) else (none)))) else (backreachref06_Term.l0 k3 l0 a1 x5_3 (wrap64 (x6_2 - 1)))) = some r := H
                                  have A21 := Aside0.mk A210
                                  clear A210
                                  by_cases c22 : x7_3 < t169
                                  · rw [if_pos c22] at H
                                    have c22b0 : decide (x7_3 < t169) = true := decide_eq_true c22
                                    clear c22
                                    by_cases c23 : x7_3 = 0
                                    · rw [if_pos c23] at H
                                      have c23b0 : (x7_3 == 0) = true := beq_iff_eq.mpr c23
                                      have c23b1 : (x7_3 != 0) = false := bne_eq_false_iff_eq.mpr c23
                                      clear c23
                                      have hai24_ : (x7_3 : Int) = 0 := beq_iff_eq.mp (by first | (with_reducible assumption) | assumption)
                                      have p24 : (0 ≤ (x7_3 : Int)) = True := eq_true (by omega)
                                      have q24 : ((x7_3 : Int) < 3) = True := eq_true (by omega)
                                      have qi24 : True → (x7_3 : Int).toNat = 0 := fun _ => by omega
                                      clear hai24_
                                      by_cases c25 : 0 ≤ ((rd_T32 l0 x6_2).f3.f0)
                                      · rw [if_pos c25] at H
                                        have c25b0 : decide (0 ≤ ((rd_T32 l0 x6_2).f3.f0)) = true := decide_eq_true c25
                                        clear c25
                                        by_cases c26 : ((rd_T32 l0 x6_2).f3.f0) < (x5_3.length : Int)
                                        · rw [if_pos c26] at H
                                          have c26b0 : decide (((rd_T32 l0 x6_2).f3.f0) < (x5_3.length : Int)) = true := decide_eq_true c26
                                          clear c26
                                          obtain ⟨y171, hy171⟩ : ∃ y_ : List Bool, y_ = (x5_3.set (((rd_T32 l0 x6_2).f3.f0) : Int).toNat true) := ⟨_, rfl⟩
                                          replace H : (backreachref06_Term.l1 k3 l0 a1 y171 x6_2 (wrap64 (x7_3 + 1))) = some r := by first | (rw [hy171]; with_reducible exact H) | (have H2_ := (Option.bind_some _ _).symm.trans H; rw [hy171]; with_reducible exact H2_) | (have H2_ := (Option.bind_some _ _).symm.trans H; with_reducible exact H2_) | with_reducible exact H | (rw [hy171]; exact H) | exact H
                                          have Ny171 := Aside0.mk hy171
                                          clear hy171
                                          have H' := Aside0.mk H
                                          clear H
                                          have p167 : 0 ≤ (x6_2 : Int) := of_decide_eq_true (by first | (with_reducible assumption) | assumption)
                                          have q167 : x6_2 < (x5_3.length : Int) := of_decide_eq_true (by first | (with_reducible assumption) | assumption)
                                          obtain ⟨ad167, e167, hx167_0⟩ := Kd.at_bool (Kd.R_reads' HO_5.out).2.2 x6_2 p167 q167
                                          (try rw [← Nbq18.out] at hx167_0)
                                          obtain rfl : (⟨go10, 0, none⟩ : Addr) = ad167 := (by injection e167)
                                          (first | simp only [add_plain] at hx167_0 | simp only [add_at] at hx167_0 | simp only [Addr.add, Nat.zero_add] at hx167_0 | skip)
                                          replace p167 := eq_true p167
                                          replace q167 := eq_true q167
                                          have p168 : 0 ≤ (x6_2 : Int) := of_decide_eq_true (by first | (with_reducible assumption) | assumption)
                                          have q168 : x6_2 < (l0.length : Int) := of_decide_eq_true (by first | (with_reducible assumption) | assumption)
                                          obtain ⟨ad168, e168, hx168_0, hx168_1, hx168_2, hx168_3, hx168_4, hx168_5⟩ := at_T32 HR0.out x6_2 p168 q168
                                          cases e168
                                          replace hx168_0 := (HB.out.cell (World.block_lt_of_cell? w _ hx168_0)).trans hx168_0
                                          replace hx168_1 := (HB.out.cell (World.block_lt_of_cell? w _ hx168_1)).trans hx168_1
                                          replace hx168_2 := (HB.out.cell (World.block_lt_of_cell? w _ hx168_2)).trans hx168_2
                                          replace hx168_3 := (HB.out.cell (World.block_lt_of_cell? w _ hx168_3)).trans hx168_3
                                          replace hx168_4 := (HB.out.cell (World.block_lt_of_cell? w _ hx168_4)).trans hx168_4
                                          replace hx168_5 := (HB.out.cell (World.block_lt_of_cell? w _ hx168_5)).trans hx168_5
                                          replace p168 := eq_true p168
                                          replace q168 := eq_true q168
                                          go_wp2_with (first | (go_at_call 22; (with_reducible refine (backreachref06_Kids.calls k3 ((rd_T32 l0 x6_2).f0) t169 _ A21.out).mono ?_); rintro e w' ⟨rfl, ⟨nd, rfl⟩⟩; (try (rw [drewN_self wr]; generalize hq_ : World.drewN wr _ = wr; have n0_ : Aside0 (Kd.R Kd.bool 4 wr w.heap.size (fun _ => True) (.slice (some ⟨go10, 0, none⟩) x5_3.length co10) x5_3) := ⟨by rw [← hq_]; exact (by (with_reducible repeat (first | apply Kd.R_alloc | apply Kd.R_drewN | apply Kd.R_drew)); exact HO_5.out)⟩; have n1_ : Aside0 (Below w.heap.size w wr) := ⟨by rw [← hq_]; exact (by repeat (first | (with_reducible first | exact HB.out | apply below_alloc | apply pw_below_drewN | apply below_drew1) | exact HB.out))⟩; clear HO_5 HB hq_; have HO_5 := n0_; have HB := n1_; clear n0_ n1_)); have p170 : 0 ≤ (x6_2 : Int) := of_decide_eq_true (by first | (with_reducible assumption) | assumption); have q170 : x6_2 < (l0.length : Int) := of_decide_eq_true (by first | (with_reducible assumption) | assumption); obtain ⟨ad170, e170, hx170_0, hx170_1, hx170_2, hx170_3, hx170_4, hx170_5⟩ := at_T32 HR0.out x6_2 p170 q170; obtain rfl : ad168 = ad170 := (by injection e170); replace hx170_0 := (HB.out.cell (World.block_lt_of_cell? w _ hx170_0)).trans hx170_0; replace hx170_1 := (HB.out.cell (World.block_lt_of_cell? w _ hx170_1)).trans hx170_1; replace hx170_2 := (HB.out.cell (World.block_lt_of_cell? w _ hx170_2)).trans hx170_2; replace hx170_3 := (HB.out.cell (World.block_lt_of_cell? w _ hx170_3)).trans hx170_3; replace hx170_4 := (HB.out.cell (World.block_lt_of_cell? w _ hx170_4)).trans hx170_4; replace hx170_5 := (HB.out.cell (World.block_lt_of_cell? w _ hx170_5)).trans hx170_5; replace p170 := eq_true p170; replace q170 := eq_true q170; have p27 : 0 ≤ (((rd_T32 l0 x6_2).f3.f0) : Int) := of_decide_eq_true (by first | (with_reducible assumption) | assumption); have q27 : (((rd_T32 l0 x6_2).f3.f0) : Int) < ((x5_3.length : Int) : Int) := of_decide_eq_true (by first | (with_reducible assumption) | assumption); obtain ⟨hx27_0, hf27_0⟩ := Kd.R_celln false HO_5.out (((rd_T32 l0 x6_2).f3.f0) : Int) p27 q27; replace p27 := eq_true p27; replace q27 := eq_true q27; obtain ⟨hy28_, hz28_⟩ := Kd.R_celln false HO_5.out (((rd_T32 l0 x6_2).f3.f0) : Int) (of_decide_eq_true (by first | (with_reducible assumption) | assumption)) (of_decide_eq_true (by first | (with_reducible assumption) | assumption)); have HP28 := Kd.R_putg HO_5.out (((rd_T32 l0 x6_2).f3.f0) : Int) true) | ((with_reducible refine gate_store (t := 4) (p := 54) rfl ?_); refine store_event (t := 4) (p := 54) (v := ?vo_w29) (w1 := (wr.setCell ⟨go10, (((rd_T32 l0 x6_2).f3.f0) : Int).toNat, none⟩ (.bool true))) ?hg ?ho ?hn ?hr ?_; (case ho => rfl); (case hg => rfl); (case hn => rfl); (case hr => first | (go_simp; done) | (go_simp; rfl)); intro w29 hw; have hg : wr.grownBy w29 (some go10) := (by rw [hw]; exact HP28.2); have hp_ : Kd.R Kd.bool 4 w29 w.heap.size (fun _ => True) (.slice (some ⟨go10, 0, none⟩) x5_3.length co10) y171 := (by rw [hw, Ny171.out]; exact HP28.1); clear HP28; have n0_ := Aside0.mk (hp_); have n1_ := Aside0.mk ((by rw [hw]; exact below_set (HB.out) GB10.out : Below w.heap.size w w29)); clear HO_5; clear HB; have HO_5 := n0_; have HB := n1_; clear n0_ n1_; clear hg hw hp_))
                                          (try simp only [← hl5_3])
                                          go_roundg k3
                                          case measure => have := HJ2.out; have := HK2.out; have := HK3.out; omega
                                          case rel => exact ⟨(y171), (wrap64 (x7_3 + 1)), (by first | rfl | (simp; done) | (simp [*]; done)), H', ⟨by have := HJ2.out; have := HK2.out; have := HK3.out; omega⟩, ⟨by (try simp only [hl5_2]); (try simp only [hl5_3]); (with_reducible repeat (first | apply Kd.R_alloc | apply Kd.R_drewN | apply Kd.R_drew)); exact HO_5.out⟩, ⟨by repeat (first | (with_reducible first | exact HB.out | apply below_alloc | apply pw_below_drewN | apply below_drew1) | exact HB.out)⟩⟩
                                        · rw [if_neg c26] at H
                                          exact absurd H (by simp)
                                      · rw [if_neg c25] at H
                                        exact absurd H (by simp)
                                    · rw [if_neg c23] at H
                                      have c23b0 : (x7_3 == 0) = false := beq_eq_false_iff_ne.mpr c23
                                      have c23b1 : (x7_3 != 0) = true := bne_iff_ne.mpr c23
                                      by_cases c30 : x7_3 = 1
                                      · rw [if_pos c30] at H
                                        have c30b0 : (x7_3 == 1) = true := beq_iff_eq.mpr c30
                                        have c30b1 : (x7_3 != 1) = false := bne_eq_false_iff_eq.mpr c30
                                        clear c30
                                        have hai31_ : (x7_3 : Int) = 1 := beq_iff_eq.mp (by first | (with_reducible assumption) | assumption)
                                        have p31 : (0 ≤ (x7_3 : Int)) = True := eq_true (by omega)
                                        have q31 : ((x7_3 : Int) < 3) = True := eq_true (by omega)
                                        have qi31 : True → (x7_3 : Int).toNat = 1 := fun _ => by omega
                                        clear hai31_
                                        by_cases c32 : 0 ≤ ((rd_T32 l0 x6_2).f3.f1)
                                        · rw [if_pos c32] at H
                                          have c32b0 : decide (0 ≤ ((rd_T32 l0 x6_2).f3.f1)) = true := decide_eq_true c32
                                          clear c32
                                          by_cases c33 : ((rd_T32 l0 x6_2).f3.f1) < (x5_3.length : Int)
                                          · rw [if_pos c33] at H
                                            have c33b0 : decide (((rd_T32 l0 x6_2).f3.f1) < (x5_3.length : Int)) = true := decide_eq_true c33
                                            clear c33
                                            obtain ⟨y172, hy172⟩ : ∃ y_ : List Bool, y_ = (x5_3.set (((rd_T32 l0 x6_2).f3.f1) : Int).toNat true) := ⟨_, rfl⟩
                                            replace H : (backreachref06_Term.l1 k3 l0 a1 y172 x6_2 (wrap64 (x7_3 + 1))) = some r := by first | (rw [hy172]; with_reducible exact H) | (have H2_ := (Option.bind_some _ _).symm.trans H; rw [hy172]; with_reducible exact H2_) | (have H2_ := (Option.bind_some _ _).symm.trans H; with_reducible exact H2_) | with_reducible exact H | (rw [hy172]; exact H) | exact H
                                            have Ny172 := Aside0.mk hy172
                                            clear hy172
                                            have H' := Aside0.mk H
                                            clear H
                                            have p167 : 0 ≤ (x6_2 : Int) := of_decide_eq_true (by first | (with_reducible assumption) | assumption)
                                            have q167 : x6_2 < (x5_3.length : Int) := of_decide_eq_true (by first | (with_reducible assumption) | assumption)
                                            obtain ⟨ad167, e167, hx167_0⟩ := Kd.at_bool (Kd.R_reads' HO_5.out).2.2 x6_2 p167 q167
                                            (try rw [← Nbq18.out] at hx167_0)
                                            obtain rfl : (⟨go10, 0, none⟩ : Addr) = ad167 := (by injection e167)
                                            (first | simp only [add_plain] at hx167_0 | simp only [add_at] at hx167_0 | simp only [Addr.add, Nat.zero_add] at hx167_0 | skip)
                                            replace p167 := eq_true p167
                                            replace q167 := eq_true q167
                                            have p168 : 0 ≤ (x6_2 : Int) := of_decide_eq_true (by first | (with_reducible assumption) | assumption)
                                            have q168 : x6_2 < (l0.length : Int) := of_decide_eq_true (by first | (with_reducible assumption) | assumption)
                                            obtain ⟨ad168, e168, hx168_0, hx168_1, hx168_2, hx168_3, hx168_4, hx168_5⟩ := at_T32 HR0.out x6_2 p168 q168
                                            cases e168
                                            replace hx168_0 := (HB.out.cell (World.block_lt_of_cell? w _ hx168_0)).trans hx168_0
                                            replace hx168_1 := (HB.out.cell (World.block_lt_of_cell? w _ hx168_1)).trans hx168_1
                                            replace hx168_2 := (HB.out.cell (World.block_lt_of_cell? w _ hx168_2)).trans hx168_2
                                            replace hx168_3 := (HB.out.cell (World.block_lt_of_cell? w _ hx168_3)).trans hx168_3
                                            replace hx168_4 := (HB.out.cell (World.block_lt_of_cell? w _ hx168_4)).trans hx168_4
                                            replace hx168_5 := (HB.out.cell (World.block_lt_of_cell? w _ hx168_5)).trans hx168_5
                                            replace p168 := eq_true p168
                                            replace q168 := eq_true q168
                                            go_wp2_with (first | (go_at_call 22; (with_reducible refine (backreachref06_Kids.calls k3 ((rd_T32 l0 x6_2).f0) t169 _ A21.out).mono ?_); rintro e w' ⟨rfl, ⟨nd, rfl⟩⟩; (try (rw [drewN_self wr]; generalize hq_ : World.drewN wr _ = wr; have n0_ : Aside0 (Kd.R Kd.bool 4 wr w.heap.size (fun _ => True) (.slice (some ⟨go10, 0, none⟩) x5_3.length co10) x5_3) := ⟨by rw [← hq_]; exact (by (with_reducible repeat (first | apply Kd.R_alloc | apply Kd.R_drewN | apply Kd.R_drew)); exact HO_5.out)⟩; have n1_ : Aside0 (Below w.heap.size w wr) := ⟨by rw [← hq_]; exact (by repeat (first | (with_reducible first | exact HB.out | apply below_alloc | apply pw_below_drewN | apply below_drew1) | exact HB.out))⟩; clear HO_5 HB hq_; have HO_5 := n0_; have HB := n1_; clear n0_ n1_)); have p170 : 0 ≤ (x6_2 : Int) := of_decide_eq_true (by first | (with_reducible assumption) | assumption); have q170 : x6_2 < (l0.length : Int) := of_decide_eq_true (by first | (with_reducible assumption) | assumption); obtain ⟨ad170, e170, hx170_0, hx170_1, hx170_2, hx170_3, hx170_4, hx170_5⟩ := at_T32 HR0.out x6_2 p170 q170; obtain rfl : ad168 = ad170 := (by injection e170); replace hx170_0 := (HB.out.cell (World.block_lt_of_cell? w _ hx170_0)).trans hx170_0; replace hx170_1 := (HB.out.cell (World.block_lt_of_cell? w _ hx170_1)).trans hx170_1; replace hx170_2 := (HB.out.cell (World.block_lt_of_cell? w _ hx170_2)).trans hx170_2; replace hx170_3 := (HB.out.cell (World.block_lt_of_cell? w _ hx170_3)).trans hx170_3; replace hx170_4 := (HB.out.cell (World.block_lt_of_cell? w _ hx170_4)).trans hx170_4; replace hx170_5 := (HB.out.cell (World.block_lt_of_cell? w _ hx170_5)).trans hx170_5; replace p170 := eq_true p170; replace q170 := eq_true q170; have p34 : 0 ≤ (((rd_T32 l0 x6_2).f3.f1) : Int) := of_decide_eq_true (by first | (with_reducible assumption) | assumption); have q34 : (((rd_T32 l0 x6_2).f3.f1) : Int) < ((x5_3.length : Int) : Int) := of_decide_eq_true (by first | (with_reducible assumption) | assumption); obtain ⟨hx34_0, hf34_0⟩ := Kd.R_celln false HO_5.out (((rd_T32 l0 x6_2).f3.f1) : Int) p34 q34; replace p34 := eq_true p34; replace q34 := eq_true q34; obtain ⟨hy35_, hz35_⟩ := Kd.R_celln false HO_5.out (((rd_T32 l0 x6_2).f3.f1) : Int) (of_decide_eq_true (by first | (with_reducible assumption) | assumption)) (of_decide_eq_true (by first | (with_reducible assumption) | assumption)); have HP35 := Kd.R_putg HO_5.out (((rd_T32 l0 x6_2).f3.f1) : Int) true) | ((with_reducible refine gate_store (t := 4) (p := 54) rfl ?_); refine store_event (t := 4) (p := 54) (v := ?vo_w36) (w1 := (wr.setCell ⟨go10, (((rd_T32 l0 x6_2).f3.f1) : Int).toNat, none⟩ (.bool true))) ?hg ?ho ?hn ?hr ?_; (case ho => rfl); (case hg => rfl); (case hn => rfl); (case hr => first | (go_simp; done) | (go_simp; rfl)); intro w36 hw; have hg : wr.grownBy w36 (some go10) := (by rw [hw]; exact HP35.2); have hp_ : Kd.R Kd.bool 4 w36 w.heap.size (fun _ => True) (.slice (some ⟨go10, 0, none⟩) x5_3.length co10) y172 := (by rw [hw, Ny172.out]; exact HP35.1); clear HP35; have n0_ := Aside0.mk (hp_); have n1_ := Aside0.mk ((by rw [hw]; exact below_set (HB.out) GB10.out : Below w.heap.size w w36)); clear HO_5; clear HB; have HO_5 := n0_; have HB := n1_; clear n0_ n1_; clear hg hw hp_))
                                            (try simp only [← hl5_3])
                                            go_roundg k3
                                            case measure => have := HJ2.out; have := HK2.out; have := HK3.out; omega
                                            case rel => exact ⟨(y172), (wrap64 (x7_3 + 1)), (by first | rfl | (simp; done) | (simp [*]; done)), H', ⟨by have := HJ2.out; have := HK2.out; have := HK3.out; omega⟩, ⟨by (try simp only [hl5_2]); (try simp only [hl5_3]); (with_reducible repeat (first | apply Kd.R_alloc | apply Kd.R_drewN | apply Kd.R_drew)); exact HO_5.out⟩, ⟨by repeat (first | (with_reducible first | exact HB.out | apply below_alloc | apply pw_below_drewN | apply below_drew1) | exact HB.out)⟩⟩
                                          · rw [if_neg c33] at H
                                            exact absurd H (by simp)
                                        · rw [if_neg c32] at H
                                          exact absurd H (by simp)
                                      · rw [if_neg c30] at H
                                        have c30b0 : (x7_3 == 1) = false := beq_eq_false_iff_ne.mpr c30
                                        have c30b1 : (x7_3 != 1) = true := bne_iff_ne.mpr c30
                                        by_cases c37 : x7_3 = 2
                                        · rw [if_pos c37] at H
                                          have c37b0 : (x7_3 == 2) = true := beq_iff_eq.mpr c37
                                          have c37b1 : (x7_3 != 2) = false := bne_eq_false_iff_eq.mpr c37
                                          clear c37
                                          have hai38_ : (x7_3 : Int) = 2 := beq_iff_eq.mp (by first | (with_reducible assumption) | assumption)
                                          have p38 : (0 ≤ (x7_3 : Int)) = True := eq_true (by omega)
                                          have q38 : ((x7_3 : Int) < 3) = True := eq_true (by omega)
                                          have qi38 : True → (x7_3 : Int).toNat = 2 := fun _ => by omega
                                          clear hai38_
                                          by_cases c39 : 0 ≤ ((rd_T32 l0 x6_2).f3.f2)
                                          · rw [if_pos c39] at H
                                            have c39b0 : decide (0 ≤ ((rd_T32 l0 x6_2).f3.f2)) = true := decide_eq_true c39
                                            clear c39
                                            by_cases c40 : ((rd_T32 l0 x6_2).f3.f2) < (x5_3.length : Int)
                                            · rw [if_pos c40] at H
                                              have c40b0 : decide (((rd_T32 l0 x6_2).f3.f2) < (x5_3.length : Int)) = true := decide_eq_true c40
                                              clear c40
                                              obtain ⟨y173, hy173⟩ : ∃ y_ : List Bool, y_ = (x5_3.set (((rd_T32 l0 x6_2).f3.f2) : Int).toNat true) := ⟨_, rfl⟩
                                              replace H : (backreachref06_Term.l1 k3 l0 a1 y173 x6_2 (wrap64 (x7_3 + 1))) = some r := by first | (rw [hy173]; with_reducible exact H) | (have H2_ := (Option.bind_some _ _).symm.trans H; rw [hy173]; with_reducible exact H2_) | (have H2_ := (Option.bind_some _ _).symm.trans H; with_reducible exact H2_) | with_reducible exact H | (rw [hy173]; exact H) | exact H
                                              have Ny173 := Aside0.mk hy173
                                              clear hy173
                                              have H' := Aside0.mk H
                                              clear H
                                              have p167 : 0 ≤ (x6_2 : Int) := of_decide_eq_true (by first | (with_reducible assumption) | assumption)
                                              have q167 : x6_2 < (x5_3.length : Int) := of_decide_eq_true (by first | (with_reducible assumption) | assumption)
                                              obtain ⟨ad167, e167, hx167_0⟩ := Kd.at_bool (Kd.R_reads' HO_5.out).2.2 x6_2 p167 q167
                                              (try rw [← Nbq18.out] at hx167_0)
                                              obtain rfl : (⟨go10, 0, none⟩ : Addr) = ad167 := (by injection e167)
                                              (first | simp only [add_plain] at hx167_0 | simp only [add_at] at hx167_0 | simp only [Addr.add, Nat.zero_add] at hx167_0 | skip)
                                              replace p167 := eq_true p167
                                              replace q167 := eq_true q167
                                              have p168 : 0 ≤ (x6_2 : Int) := of_decide_eq_true (by first | (with_reducible assumption) | assumption)
                                              have q168 : x6_2 < (l0.length : Int) := of_decide_eq_true (by first | (with_reducible assumption) | assumption)
                                              obtain ⟨ad168, e168, hx168_0, hx168_1, hx168_2, hx168_3, hx168_4, hx168_5⟩ := at_T32 HR0.out x6_2 p168 q168
                                              cases e168
                                              replace hx168_0 := (HB.out.cell (World.block_lt_of_cell? w _ hx168_0)).trans hx168_0
                                              replace hx168_1 := (HB.out.cell (World.block_lt_of_cell? w _ hx168_1)).trans hx168_1
                                              replace hx168_2 := (HB.out.cell (World.block_lt_of_cell? w _ hx168_2)).trans hx168_2
                                              replace hx168_3 := (HB.out.cell (World.block_lt_of_cell? w _ hx168_3)).trans hx168_3
                                              replace hx168_4 := (HB.out.cell (World.block_lt_of_cell? w _ hx168_4)).trans hx168_4
                                              replace hx168_5 := (HB.out.cell (World.block_lt_of_cell? w _ hx168_5)).trans hx168_5
                                              replace p168 := eq_true p168
                                              replace q168 := eq_true q168
                                              go_wp2_with (first | (go_at_call 22; (with_reducible refine (backreachref06_Kids.calls k3 ((rd_T32 l0 x6_2).f0) t169 _ A21.out).mono ?_); rintro e w' ⟨rfl, ⟨nd, rfl⟩⟩; (try (rw [drewN_self wr]; generalize hq_ : World.drewN wr _ = wr; have n0_ : Aside0 (Kd.R Kd.bool 4 wr w.heap.size (fun _ => True) (.slice (some ⟨go10, 0, none⟩) x5_3.length co10) x5_3) := ⟨by rw [← hq_]; exact (by (with_reducible repeat (first | apply Kd.R_alloc | apply Kd.R_drewN | apply Kd.R_drew)); exact HO_5.out)⟩; have n1_ : Aside0 (Below w.heap.size w wr) := ⟨by rw [← hq_]; exact (by repeat (first | (with_reducible first | exact HB.out | apply below_alloc | apply pw_below_drewN | apply below_drew1) | exact HB.out))⟩; clear HO_5 HB hq_; have HO_5 := n0_; have HB := n1_; clear n0_ n1_)); have p170 : 0 ≤ (x6_2 : Int) := of_decide_eq_true (by first | (with_reducible assumption) | assumption); have q170 : x6_2 < (l0.length : Int) := of_decide_eq_true (by first | (with_reducible assumption) | assumption); obtain ⟨ad170, e170, hx170_0, hx170_1, hx170_2, hx170_3, hx170_4, hx170_5⟩ := at_T32 HR0.out x6_2 p170 q170; obtain rfl : ad168 = ad170 := (by injection e170); replace hx170_0 := (HB.out.cell (World.block_lt_of_cell? w _ hx170_0)).trans hx170_0; replace hx170_1 := (HB.out.cell (World.block_lt_of_cell? w _ hx170_1)).trans hx170_1; replace hx170_2 := (HB.out.cell (World.block_lt_of_cell? w _ hx170_2)).trans hx170_2; replace hx170_3 := (HB.out.cell (World.block_lt_of_cell? w _ hx170_3)).trans hx170_3; replace hx170_4 := (HB.out.cell (World.block_lt_of_cell? w _ hx170_4)).trans hx170_4; replace hx170_5 := (HB.out.cell (World.block_lt_of_cell? w _ hx170_5)).trans hx170_5; replace p170 := eq_true p170; replace q170 := eq_true q170; have p41 : 0 ≤ (((rd_T32 l0 x6_2).f3.f2) : Int) := of_decide_eq_true (by first | (with_reducible assumption) | assumption); have q41 : (((rd_T32 l0 x6_2).f3.f2) : Int) < ((x5_3.length : Int) : Int) := of_decide_eq_true (by first | (with_reducible assumption) | assumption); obtain ⟨hx41_0, hf41_0⟩ := Kd.R_celln false HO_5.out (((rd_T32 l0 x6_2).f3.f2) : Int) p41 q41; replace p41 := eq_true p41; replace q41 := eq_true q41; obtain ⟨hy42_, hz42_⟩ := Kd.R_celln false HO_5.out (((rd_T32 l0 x6_2).f3.f2) : Int) (of_decide_eq_true (by first | (with_reducible assumption) | assumption)) (of_decide_eq_true (by first | (with_reducible assumption) | assumption)); have HP42 := Kd.R_putg HO_5.out (((rd_T32 l0 x6_2).f3.f2) : Int) true) | ((with_reducible refine gate_store (t := 4) (p := 54) rfl ?_); refine store_event (t := 4) (p := 54) (v := ?vo_w43) (w1 := (wr.setCell ⟨go10, (((rd_T32 l0 x6_2).f3.f2) : Int).toNat, none⟩ (.bool true))) ?hg ?ho ?hn ?hr ?_; (case ho => rfl); (case hg => rfl); (case hn => rfl); (case hr => first | (go_simp; done) | (go_simp; rfl)); intro w43 hw; have hg : wr.grownBy w43 (some go10) := (by rw [hw]; exact HP42.2); have hp_ : Kd.R Kd.bool 4 w43 w.heap.size (fun _ => True) (.slice (some ⟨go10, 0, none⟩) x5_3.length co10) y173 := (by rw [hw, Ny173.out]; exact HP42.1); clear HP42; have n0_ := Aside0.mk (hp_); have n1_ := Aside0.mk ((by rw [hw]; exact below_set (HB.out) GB10.out : Below w.heap.size w w43)); clear HO_5; clear HB; have HO_5 := n0_; have HB := n1_; clear n0_ n1_; clear hg hw hp_))
                                              (try simp only [← hl5_3])
                                              go_roundg k3
                                              case measure => have := HJ2.out; have := HK2.out; have := HK3.out; omega
                                              case rel => exact ⟨(y173), (wrap64 (x7_3 + 1)), (by first | rfl | (simp; done) | (simp [*]; done)), H', ⟨by have := HJ2.out; have := HK2.out; have := HK3.out; omega⟩, ⟨by (try simp only [hl5_2]); (try simp only [hl5_3]); (with_reducible repeat (first | apply Kd.R_alloc | apply Kd.R_drewN | apply Kd.R_drew)); exact HO_5.out⟩, ⟨by repeat (first | (with_reducible first | exact HB.out | apply below_alloc | apply pw_below_drewN | apply below_drew1) | exact HB.out)⟩⟩
                                            · rw [if_neg c40] at H
                                              exact absurd H (by simp)
                                          · rw [if_neg c39] at H
                                            exact absurd H (by simp)
                                        · rw [if_neg c37] at H
                                          exact absurd H (by simp)
                                  · rw [if_neg c22] at H
                                    have c22b0 : decide (x7_3 < t169) = false := decide_eq_false c22
                                    clear c22
                                    have H' := Aside0.mk H
                                    clear H
                                    have p167 : 0 ≤ (x6_2 : Int) := of_decide_eq_true (by first | (with_reducible assumption) | assumption)
                                    have q167 : x6_2 < (x5_3.length : Int) := of_decide_eq_true (by first | (with_reducible assumption) | assumption)
                                    obtain ⟨ad167, e167, hx167_0⟩ := Kd.at_bool (Kd.R_reads' HO_5.out).2.2 x6_2 p167 q167
                                    (try rw [← Nbq18.out] at hx167_0)
                                    obtain rfl : (⟨go10, 0, none⟩ : Addr) = ad167 := (by injection e167)
                                    (first | simp only [add_plain] at hx167_0 | simp only [add_at] at hx167_0 | simp only [Addr.add, Nat.zero_add] at hx167_0 | skip)
                                    replace p167 := eq_true p167
                                    replace q167 := eq_true q167
                                    have p168 : 0 ≤ (x6_2 : Int) := of_decide_eq_true (by first | (with_reducible assumption) | assumption)
                                    have q168 : x6_2 < (l0.length : Int) := of_decide_eq_true (by first | (with_reducible assumption) | assumption)
                                    obtain ⟨ad168, e168, hx168_0, hx168_1, hx168_2, hx168_3, hx168_4, hx168_5⟩ := at_T32 HR0.out x6_2 p168 q168
                                    cases e168
                                    replace hx168_0 := (HB.out.cell (World.block_lt_of_cell? w _ hx168_0)).trans hx168_0
                                    replace hx168_1 := (HB.out.cell (World.block_lt_of_cell? w _ hx168_1)).trans hx168_1
                                    replace hx168_2 := (HB.out.cell (World.block_lt_of_cell? w _ hx168_2)).trans hx168_2
                                    replace hx168_3 := (HB.out.cell (World.block_lt_of_cell? w _ hx168_3)).trans hx168_3
                                    replace hx168_4 := (HB.out.cell (World.block_lt_of_cell? w _ hx168_4)).trans hx168_4
                                    replace hx168_5 := (HB.out.cell (World.block_lt_of_cell? w _ hx168_5)).trans hx168_5
                                    replace p168 := eq_true p168
                                    replace q168 := eq_true q168
                                    go_wp2_with (first | (go_at_call 22; (with_reducible refine (backreachref06_Kids.calls k3 ((rd_T32 l0 x6_2).f0) t169 _ A21.out).mono ?_); rintro e w' ⟨rfl, ⟨nd, rfl⟩⟩))
                                    (try simp only [← hl5_2, ← hl5_3])
                                    go_roundg k3
                                    case measure => have := HJ2.out; have := HK2.out; have := HK3.out; omega
                                    case rel => exact ⟨(x5_3), (wrap64 (x6_2 - 1)), (by first | rfl | (simp; done) | (simp [*]; done)), H', ⟨by have := HJ2.out; have := HK2.out; have := HK3.out; omega⟩, ⟨by (try simp only [hl5_2]); (try simp only [hl5_3]); (with_reducible repeat (first | apply Kd.R_alloc | apply Kd.R_drewN | apply Kd.R_drew)); exact HO_5.out⟩, ⟨by repeat (first | (with_reducible first | exact HB.out | apply below_alloc | apply pw_below_drewN | apply below_drew1) | exact HB.out)⟩⟩
                                · rw [if_neg c20] at H
                                  exact absurd H (by simp)
                              · replace c19 := Bool.eq_false_iff.mpr c19
                                subst c19
                                have H1 : (backreachref06_Term.l0 k3 l0 a1 x5_3 (wrap64 (x6_2 - 1))) = some r := by rw [if_neg (show ¬ (false = true) by decide)] at H; exact H
                                clear H
                                have H := H1
                                clear H1
                                have H' := Aside0.mk H
                                clear H
                                have p167 : 0 ≤ (x6_2 : Int) := of_decide_eq_true (by first | (with_reducible assumption) | assumption)
                                have q167 : x6_2 < (x5_3.length : Int) := of_decide_eq_true (by first | (with_reducible assumption) | assumption)
                                obtain ⟨ad167, e167, hx167_0⟩ := Kd.at_bool (Kd.R_reads' HO_5.out).2.2 x6_2 p167 q167
                                (try rw [← Nbq18.out] at hx167_0)
                                obtain rfl : (⟨go10, 0, none⟩ : Addr) = ad167 := (by injection e167)
                                (first | simp only [add_plain] at hx167_0 | simp only [add_at] at hx167_0 | simp only [Addr.add, Nat.zero_add] at hx167_0 | skip)
                                replace p167 := eq_true p167
                                replace q167 := eq_true q167
                                go_wp2
                                (try simp only [← hl5_2, ← hl5_3])
                                go_roundg k3
                                case measure => have := HJ2.out; have := HK2.out; have := HK3.out; omega
                                case rel => exact ⟨(x5_3), (wrap64 (x6_2 - 1)), (by first | rfl | (simp; done) | (simp [*]; done)), H', ⟨by have := HJ2.out; have := HK2.out; have := HK3.out; omega⟩, ⟨by (try simp only [hl5_2]); (try simp only [hl5_3]); (with_reducible repeat (first | apply Kd.R_alloc | apply Kd.R_drewN | apply Kd.R_drew)); exact HO_5.out⟩, ⟨by repeat (first | (with_reducible first | exact HB.out | apply below_alloc | apply pw_below_drewN | apply below_drew1) | exact HB.out)⟩⟩
                            · rw [if_neg c17] at H
                              exact absurd H (by simp)
                          · rw [if_neg c16] at H
                            exact absurd H (by simp)
                    · rw [if_neg c15] at H
                      have c15b0 : decide (0 ≤ x6_2) = false := decide_eq_false c15
                      clear c15
                      by_cases c44 : 0 ≤ (l0.length : Int)
                      · rw [if_pos c44] at H
                        have c44b0 := eq_true c44
                        have c44b1 : decide (0 ≤ (l0.length : Int)) = true := decide_eq_true c44
                        clear c44
                        by_cases c45 : ((l0.length : Int) : Int).toNat ≤ 35184372088832
                        · rw [if_pos c45] at H
                          have c45b0 := eq_true c45
                          have c45b1 : decide (((l0.length : Int) : Int).toNat ≤ 35184372088832) = true := decide_eq_true c45
                          clear c45
                          obtain ⟨y174, hy174⟩ : ∃ y_ : List Int, y_ = (List.replicate ((l0.length : Int) : Int).toNat 0) := ⟨_, rfl⟩
                          replace H : (backreachref06_Term.l2 k2 l0 a1 x5_2 y174 ([] : List (S32)) 0) = some r := by first | (rw [hy174]; with_reducible exact H) | (have H2_ := (Option.bind_some _ _).symm.trans H; rw [hy174]; with_reducible exact H2_) | (have H2_ := (Option.bind_some _ _).symm.trans H; with_reducible exact H2_) | with_reducible exact H | (rw [hy174]; exact H) | exact H
                          have Ny174 := Aside0.mk hy174
                          clear hy174
                          have H' := Aside0.mk H
                          clear H
                          go_wp2_with (first | ((with_reducible refine gate_dst (N := 57) rfl ?_); (try (refine gate_guard (by rfl) ?_; dsimp only)); refine Kd.R_make (Kd.int .i64) _ 3 rfl (N := 57) rfl 67 _ _ rfl (l0.length : Int) rfl rfl Try.underlying67 (.int .i64 0) 8 info3 rfl (by decide) (by omega) 0 (ok := fun _ => True) (okp := fun _ => True) rfl (fun _ hk => hk) trivial (of_decide_eq_true (by first | (with_reducible assumption) | assumption)) (Nat.le_trans (Nat.mul_le_mul_right _ (of_decide_eq_true (by first | (with_reducible assumption) | assumption) : (l0.length : Int).toNat ≤ 35184372088832)) (by omega)) (Below.refl _ _) (Nat.le_refl _) ?_; intro v175 w46 ho47 hb hg_ hnew_; clear hg_ hnew_; (first | rw [← Ny174.out] at ho47 | (simp only [Int.reduceToNat] at ho47; rw [← Ny174.out] at ho47)); have n0_ := Aside0.mk (Kd.R_below (by (with_reducible repeat (first | apply Kd.R_alloc | apply Kd.R_drewN | apply Kd.R_drew)); exact HO_5.out) hb); have n1_ := Aside0.mk (Kd.R_lower ho47 (below_size (by repeat (first | (with_reducible first | exact HB.out | apply below_alloc | apply pw_below_drewN | apply below_drew1) | exact HB.out)))); have n2_ := Aside0.mk (below_step (by repeat (first | (with_reducible first | exact HB.out | apply below_alloc | apply pw_below_drewN | apply below_drew1) | exact HB.out)) hb); clear HO_5; clear HB; have HO_5 := n0_; have HO176 := n1_; have HB := n2_; clear n0_ n1_ n2_; clear hb ho47))
                          go_loopg [9, 10] k2 (fun kq v9 v10 w' => ∃ (x8_3 : List Int) (x9_3 : List (S32)) (x10_3 : Int), v10 = .int .i64 x10_3 ∧ Aside0 (backreachref06_Term.l2 kq l0 a1 x5_2 x8_3 x9_3 x10_3 = some r) ∧ Aside0 (kq ≤ k2) ∧ Aside0 (Kd.R Kd.bool 4 w' w.heap.size (fun _ => True) (.slice (some ⟨go10, 0, none⟩) x5_2.length co10) x5_2) ∧ Aside0 (Kd.R (Kd.int .i64) 3 w' w.heap.size (fun _ => True) v175 x8_3) ∧ Aside0 (Kd.R k32 32 w' w.heap.size (fun _ => True) v9 x9_3) ∧ Aside0 (Below w.heap.size w w'))
                          case atStart => exact ⟨(y174), (([] : List (S32))), (0), (by first | rfl | (simp; done) | (simp [*]; done)), H', ⟨Nat.le_refl _⟩, ⟨by (try simp only [hl5_2]); (with_reducible repeat (first | apply Kd.R_alloc | apply Kd.R_drewN | apply Kd.R_drew)); exact HO_5.out⟩, ⟨by (try simp only [hl5_2]); (with_reducible repeat (first | apply Kd.R_alloc | apply Kd.R_drewN | apply Kd.R_drew)); exact HO176.out⟩, ⟨by (try simp only [hl5_2]); first | exact Kd.R_nil _ _ _ _ _ | exact Kd.N_nil _ _ _ _ _ | exact Kd.V_nil _ _ _ _ _ | exact Kd.Q_nil _ _ _ _ _ | exact Kd.S_nil _ _ _ _ _⟩, ⟨by repeat (first | (with_reducible first | exact HB.out | apply below_alloc | apply pw_below_drewN | apply below_drew1) | exact HB.out)⟩⟩
                          case round =>
                            clear H'
                            try clear c1
                            try clear p1
                            try clear q1
                            try clear hx1
                            try clear c2
                            try clear p2
                            try clear q2
                            try clear hx2
                            try clear qi2
                            try clear hf2
                            try clear c3
                            try clear p3
                            try clear q3
                            try clear hx3
                            try clear qi3
                            try clear hf3
                            try clear c4
                            try clear c4b0
                            try clear p4
                            try clear q4
                            try clear hx4
                            try clear hf4
                            try clear c5
                            try clear c6
                            try clear c6b0
                            try clear c6b1
                            try clear p6
                            try clear c7
                            try clear c7b0
                            try clear c7b1
                            try clear c8
                            try clear c8b0
                            try clear c9
                            try clear c9b0
                            try clear p10
                            try clear q10
                            try clear hx10
                            try clear hf10
                            try clear c15
                            try clear c15b0
                            try clear c16
                            try clear c16b0
                            try clear p16
                            try clear q16
                            try clear hx16
                            try clear c17
                            try clear c17b0
                            try clear p17
                            try clear q17
                            try clear hx17
                            try clear c18
                            try clear q18
                            try clear c19
                            try clear c20
                            try clear c20b0
                            try clear c22
                            try clear c22b0
                            try clear c23
                            try clear c23b0
                            try clear c23b1
                            try clear p24
                            try clear q24
                            try clear qi24
                            try clear c25
                            try clear c25b0
                            try clear c26
                            try clear c26b0
                            try clear p27
                            try clear q27
                            try clear hx27
                            try clear hf27
                            try clear c30
                            try clear c30b0
                            try clear c30b1
                            try clear p31
                            try clear q31
                            try clear qi31
                            try clear c32
                            try clear c32b0
                            try clear c33
                            try clear c33b0
                            try clear p34
                            try clear q34
                            try clear hx34
                            try clear hf34
                            try clear c37
                            try clear c37b0
                            try clear c37b1
                            try clear p38
                            try clear q38
                            try clear qi38
                            try clear c39
                            try clear c39b0
                            try clear c40
                            try clear c40b0
                            try clear p41
                            try clear q41
                            try clear hx41
                            try clear hf41
                            try clear c44
                            try clear c44b0
                            try clear c44b1
                            try clear c45
                            try clear c45b0
                            try clear c45b1
                            try clear hx10_0
                            try clear hx167_0
                            try clear hx168_0
                            try clear hx168_1
                            try clear hx168_2
                            try clear hx168_3
                            try clear hx168_4
                            try clear hx168_5
                            try clear hx170_0
                            try clear hx170_1
                            try clear hx170_2
                            try clear hx170_3
                            try clear hx170_4
                            try clear hx170_5
                            try clear hx27_0
                            try clear hx34_0
                            try clear hx41_0
                            try clear p1
                            try clear p10
                            try clear p167
                            try clear p168
                            try clear p170
                            try clear p2
                            try clear p24
                            try clear p27
                            try clear p31
                            try clear p34
                            try clear p38
                            try clear p41
                            try clear q1
                            try clear q10
                            try clear q167
                            try clear q168
                            try clear q170
                            try clear q24
                            try clear q27
                            try clear q31
                            try clear q34
                            try clear q38
                            try clear q41
                            obtain ⟨x8_3, x9_3, x10_3, rfl, HA, HK3, HO_5, HO_8, HO_9, HB⟩ := hrel
                            cases gk with
                            | zero => exact absurd HA.out (by simp [backreachref06_Term.l2])
                            | succ k3 =>
                              have H := HA.out
                              clear HA
                              simp only [backreachref06_Term.l2] at H
                              by_cases c48 : x10_3 ≤ a1
                              · rw [if_pos c48] at H
                                have c48b0 : decide (x10_3 ≤ a1) = true := decide_eq_true c48
                                clear c48
                                by_cases c49 : 0 ≤ x10_3
                                · rw [if_pos c49] at H
                                  have c49b0 : decide (0 ≤ x10_3) = true := decide_eq_true c49
                                  clear c49
                                  by_cases c50 : x10_3 < (x5_2.length : Int)
                                  · rw [if_pos c50] at H
                                    have c50b0 : decide (x10_3 < (x5_2.length : Int)) = true := decide_eq_true c50
                                    clear c50
                                    obtain ⟨bq51, hbq51⟩ : ∃ b_ : Bool, b_ = (rdOf false x5_2 x10_3) := ⟨_, rfl⟩
                                    replace H : (if bq51 = true then (if x10_3 < (x8_3.length : Int) then ((some (x8_3.set (x10_3 : Int).toNat (x9_3.length : Int) : List Int)).bind fun y178 => (if x10_3 < (l0.length : Int) then ((backreachref06_told.f k3 ((rd_T32 l0 x10_3).f0) ((rd_T32 l0 x10_3).f1) ((rd_T32 l0 x10_3).f2) ((rd_T32 l0 x10_3).f3.f0) ((rd_T32 l0 x10_3).f3.f1) ((rd_T32 l0 x10_3).f3.f2) y178).bind fun bt180 => (if x9_3.length < 2932031007402 then (backreachref06_Term.l2 k3 l0 a1 x5_2 y178 (x9_3 ++ [(⟨bt180.1, bt180.2.1, bt180.2.2.1, (⟨bt180.2.2.2.1, bt180.2.2.2.2.1, bt180.2.2.2.2.2⟩ : S30)⟩ : S32)]) (wrap64 (x10_3 + 1))) else (none))) else (none))) else (none)) else (backreachref06_Term.l2 k3 l0 a1 x5_2 x8_3 x9_3 (wrap64 (x10_3 + 1)))) = some r := by rw [← hbq51] at H; exact H
                                    have Nbq51 := Aside0.mk hbq51
                                    clear hbq51
                                    by_cases c52 : bq51 = true
                                    · subst c52
                                      have H1 : (if x10_3 < (x8_3.length : Int) then ((some (x8_3.set (x10_3 : Int).toNat (x9_3.length : Int) : List Int)).bind fun y178 => (if x10_3 < (l0.length : Int) then ((backreachref06_told.f k3 ((rd_T32 l0 x10_3).f0) ((rd_T32 l0 x10_3).f1) ((rd_T32 l0 x10_3).f2) ((rd_T32 l0 x10_3).f3.f0) ((rd_T32 l0 x10_3).f3.f1) ((rd_T32 l0 x10_3).f3.f2) y178).bind fun bt180 => (if x9_3.length < 2932031007402 then (backreachref06_Term.l2 k3 l0 a1 x5_2 y178 (x9_3 ++ [(⟨bt180.1, bt180.2.1, bt180.2.2.1, (⟨bt180.2.2.2.1, bt180.2.2.2.2.1, bt180.2.2.2.2.2⟩ : S30)⟩ : S32)]) (wrap64 (x10_3 + 1))) else (none))) else (none))) else (none)) = some r := by rw [if_pos rfl] at H; exact H
                                      clear H
                                      have H := H1
                                      clear H1
                                      by_cases c53 : x10_3 < (x8_3.length : Int)
                                      · rw [if_pos c53] at H
                                        have c53b0 : decide (x10_3 < (x8_3.length : Int)) = true := decide_eq_true c53
                                        clear c53
                                        obtain ⟨y178, hy178⟩ : ∃ y_ : List Int, y_ = (x8_3.set (x10_3 : Int).toNat (x9_3.length : Int)) := ⟨_, rfl⟩
                                        replace H : (if x10_3 < (l0.length : Int) then ((backreachref06_told.f k3 ((rd_T32 l0 x10_3).f0) ((rd_T32 l0 x10_3).f1) ((rd_T32 l0 x10_3).f2) ((rd_T32 l0 x10_3).f3.f0) ((rd_T32 l0 x10_3).f3.f1) ((rd_T32 l0 x10_3).f3.f2) y178).bind fun bt180 => (if x9_3.length < 2932031007402 then (backreachref06_Term.l2 k3 l0 a1 x5_2 y178 (x9_3 ++ [(⟨bt180.1, bt180.2.1, bt180.2.2.1, (⟨bt180.2.2.2.1, bt180.2.2.2.2.1, bt180.2.2.2.2.2⟩ : S30)⟩ : S32)]) (wrap64 (x10_3 + 1))) else (none))) else (none)) = some r := by first | (rw [hy178]; with_reducible exact H) | (have H2_ := (Option.bind_some _ _).symm.trans H; rw [hy178]; with_reducible exact H2_) | (have H2_ := (Option.bind_some _ _).symm.trans H; with_reducible exact H2_) | with_reducible exact H | (rw [hy178]; exact H) | exact H
                                        have Ny178 := Aside0.mk hy178
                                        clear hy178
                                        by_cases c55 : x10_3 < (l0.length : Int)
                                        · rw [if_pos c55] at H
                                          have c55b0 : decide (x10_3 < (l0.length : Int)) = true := decide_eq_true c55
                                          clear c55
                                          replace H := Option.bind_eq_some_iff.mp H
                                          obtain ⟨⟨t180, t181, t182, t183, t184, t185⟩, A560, H⟩ := H
                                          replace H : (if x9_3.length < 2932031007402 then (backreachref06_Term.l2 k3 l0 a1 x5_2 y178 (x9_3 ++ [(⟨t180, t181, t182, (⟨t183, t184, t185⟩ : S30)⟩ : S32)]) (wrap64 (x10_3 + 1))) else (none)) = some r := H
                                          have A56 := Aside0.mk A560
                                          clear A560
                                          by_cases c57 : x9_3.length < 2932031007402
                                          · rw [if_pos c57] at H
                                            have LMc57 := Aside0.mk c57
                                            clear c57
                                            obtain ⟨y186, hy186⟩ : ∃ y_ : List (S32), y_ = (x9_3 ++ [(⟨t180, t181, t182, (⟨t183, t184, t185⟩ : S30)⟩ : S32)]) := ⟨_, rfl⟩
                                            replace H : (backreachref06_Term.l2 k3 l0 a1 x5_2 y178 y186 (wrap64 (x10_3 + 1))) = some r := by first | (rw [hy186]; with_reducible exact H) | (have H2_ := (Option.bind_some _ _).symm.trans H; rw [hy186]; with_reducible exact H2_) | (have H2_ := (Option.bind_some _ _).symm.trans H; with_reducible exact H2_) | with_reducible exact H | (rw [hy186]; exact H) | exact H
                                            have Ny186 := Aside0.mk hy186
                                            clear hy186
                                            have H' := Aside0.mk H
                                            clear H
                                            have p177 : 0 ≤ (x10_3 : Int) := of_decide_eq_true (by first | (with_reducible assumption) | assumption)
                                            have q177 : x10_3 < (x5_2.length : Int) := of_decide_eq_true (by first | (with_reducible assumption) | assumption)
                                            obtain ⟨ad177, e177, hx177_0⟩ := Kd.at_bool (Kd.R_reads' HO_5.out).2.2 x10_3 p177 q177
                                            (try rw [← Nbq51.out] at hx177_0)
                                            obtain rfl : (⟨go10, 0, none⟩ : Addr) = ad177 := (by injection e177)
                                            (first | simp only [add_plain] at hx177_0 | simp only [add_at] at hx177_0 | simp only [Addr.add, Nat.zero_add] at hx177_0 | skip)
                                            replace p177 := eq_true p177
                                            replace q177 := eq_true q177
                                            obtain ⟨Ao58, co58, eo58⟩ := Kd.R_slice HO_9.out
                                            subst eo58
                                            have p54 : 0 ≤ (x10_3 : Int) := of_decide_eq_true (by first | (with_reducible assumption) | assumption)
                                            have q54 : (x10_3 : Int) < ((x8_3.length : Int) : Int) := of_decide_eq_true (by first | (with_reducible assumption) | assumption)
                                            obtain ⟨go54, co54, eo54, gb54, gl54, cl54, HG54⟩ := Kd.R_form HO_8.out (by omega)
                                            (first | cases eo54 | (injection eo54 with ea_ en_ ec_; (first | subst ea_ | (injection ea_ with ea_; subst ea_)); subst ec_; clear en_))
                                            have GB54 := Aside0.mk gb54
                                            have GG54 := Aside0.mk HG54
                                            clear gb54 gl54 HG54
                                            obtain ⟨hx54_0, hf54_0⟩ := Kd.R_celln 0 HO_8.out (x10_3 : Int) p54 q54
                                            replace p54 := eq_true p54
                                            replace q54 := eq_true q54
                                            have HP59 := Kd.R_putg HO_8.out (x10_3 : Int) (x9_3.length : Int)
                                            go_wp2_with (first | ((with_reducible refine gate_store (t := 3) (p := 71) rfl ?_); refine store_event (t := 3) (p := 71) (v := ?vo_w60) (w1 := (wr.setCell ⟨go54, (x10_3 : Int).toNat, none⟩ (.int .i64 (x9_3.length : Int)))) ?hg ?ho ?hn ?hr ?_; (case ho => rfl); (case hg => rfl); (case hn => rfl); (case hr => first | (go_simp; done) | (go_simp; rfl)); intro w60 hw; have hg : wr.grownBy w60 (some go54) := (by rw [hw]; exact HP59.2); have hp_ : Kd.R (Kd.int .i64) 3 w60 w.heap.size (fun _ => True) (.slice (some ⟨go54, 0, none⟩) x8_3.length co54) y178 := (by rw [hw, Ny178.out]; exact HP59.1); clear HP59; have n0_ := Aside0.mk (Kd.R_over' (v := (.slice (some ⟨go54, 0, none⟩) x8_3.length co54)) (by (with_reducible repeat (first | apply Kd.R_alloc | apply Kd.R_drewN | apply Kd.R_drew)); exact HO_5.out) (Kd.R_typed HO_8.out) (by decide) hg); have n1_ := Aside0.mk (hp_); have n2_ := Aside0.mk (Kd.R_over' (v := (.slice (some ⟨go54, 0, none⟩) x8_3.length co54)) (by (with_reducible repeat (first | apply Kd.R_alloc | apply Kd.R_drewN | apply Kd.R_drew)); exact HO_9.out) (Kd.R_typed HO_8.out) (by decide) hg); have n3_ := Aside0.mk ((by rw [hw]; exact below_set (HB.out) GB54.out : Below w.heap.size w w60)); clear HO_5; clear HO_8; clear HO_9; clear HB; have HO_5 := n0_; have HO_8 := n1_; have HO_9 := n2_; have HB := n3_; clear n0_ n1_ n2_ n3_; clear hg hw hp_; have p179 : 0 ≤ (x10_3 : Int) := of_decide_eq_true (by first | (with_reducible assumption) | assumption); have q179 : x10_3 < (l0.length : Int) := of_decide_eq_true (by first | (with_reducible assumption) | assumption); obtain ⟨ad179, e179, hx179_0, hx179_1, hx179_2, hx179_3, hx179_4, hx179_5⟩ := at_T32 HR0.out x10_3 p179 q179; cases e179; replace hx179_0 := (HB.out.cell (World.block_lt_of_cell? w _ hx179_0)).trans hx179_0; replace hx179_1 := (HB.out.cell (World.block_lt_of_cell? w _ hx179_1)).trans hx179_1; replace hx179_2 := (HB.out.cell (World.block_lt_of_cell? w _ hx179_2)).trans hx179_2; replace hx179_3 := (HB.out.cell (World.block_lt_of_cell? w _ hx179_3)).trans hx179_3; replace hx179_4 := (HB.out.cell (World.block_lt_of_cell? w _ hx179_4)).trans hx179_4; replace hx179_5 := (HB.out.cell (World.block_lt_of_cell? w _ hx179_5)).trans hx179_5; replace p179 := eq_true p179; replace q179 := eq_true q179) | ((with_reducible refine gate_callee (f := 31) rfl ?_); refine goesL_ (some 78) rfl rfl Try.func31 (by kernel_rfl) rfl #[.agg #[.int .i64 ((rd_T32 l0 x10_3).f0), .int .i64 ((rd_T32 l0 x10_3).f1), .int .u64 ((rd_T32 l0 x10_3).f2), .int .i64 ((rd_T32 l0 x10_3).f3.f0), .int .i64 ((rd_T32 l0 x10_3).f3.f1), .int .i64 ((rd_T32 l0 x10_3).f3.f2)], .slice (some ⟨go54, 0, none⟩) y178.length co54] rfl (by (try simp only [List.map_toArray, List.map_cons, List.map_nil]); first | done | (rw [show y178.length = x8_3.length from (Kd.R_reads' HO_8.out).1.symm] <;> rfl) | rfl | (simp only [List.length_drop, List.length_take]; rfl)) ?_; (with_reducible refine (backreachref06_told.calls k3 ((rd_T32 l0 x10_3).f0) ((rd_T32 l0 x10_3).f1) ((rd_T32 l0 x10_3).f2) ((rd_T32 l0 x10_3).f3.f0) ((rd_T32 l0 x10_3).f3.f1) ((rd_T32 l0 x10_3).f3.f2) _ _ y178 t180 t181 t182 t183 t184 t185 _ ?side1 ?side2 A56.out).mono ?_); (case side1 => repeat (first | exact (Kd.R_reads' HO_8.out).2.2 | (with_reducible refine Kd.C_alloc ?_ _) | (with_reducible refine Kd.C_drewN ?_ _) | (with_reducible refine Kd.C_drew ?_))); (case side2 => rw [show y178.length = x8_3.length from (Kd.R_reads' HO_8.out).1.symm]; exact (Kd.R_reads' HO_8.out).2.1); rintro e w61 ⟨rfl, hb⟩; refine ⟨_, rfl, ?_⟩; have n0_ := Aside0.mk (Kd.R_below (by (with_reducible repeat (first | apply Kd.R_alloc | apply Kd.R_drewN | apply Kd.R_drew)); exact HO_5.out) hb); have n1_ := Aside0.mk (Kd.R_below (by (with_reducible repeat (first | apply Kd.R_alloc | apply Kd.R_drewN | apply Kd.R_drew)); exact HO_8.out) hb); have n2_ := Aside0.mk (Kd.R_below (by (with_reducible repeat (first | apply Kd.R_alloc | apply Kd.R_drewN | apply Kd.R_drew)); exact HO_9.out) hb); have n3_ := Aside0.mk (below_step (by repeat (first | (with_reducible first | exact HB.out | apply below_alloc | apply pw_below_drewN | apply below_drew1) | exact HB.out)) hb); clear HO_5; clear HO_8; clear HO_9; clear HB; have HO_5 := n0_; have HO_8 := n1_; have HO_9 := n2_; have HB := n3_; clear n0_ n1_ n2_ n3_; (try clear hb); (try clear hb2); (try clear hk); (try clear hi)) | ((with_reducible refine gate_builtin (b := .append) (xs := #[.tmp 72, .tmp 79]) rfl ?_); (try (refine gate_guard (by rfl) ?_; dsimp only)); at_builtin; refine Kd.R_append k32 (w0 := w) w.heap.size rfl (.tmp 72) (.tmp 79) 22 32 (.agg #[(.int .i64 0), (.int .i64 0), (.int .u64 0), (.int .i64 0), (.int .i64 0), (.int .i64 0)]) 48 rfl Try.underlying22 info32 rfl (by decide) (by omega) (.slice Ao58 x9_3.length co58) x9_3 (⟨t180, t181, t182, (⟨t183, t184, t185⟩ : S30)⟩ : S32) [.int .i64 t180, .int .i64 t181, .int .u64 t182, .int .i64 t183, .int .i64 t184, .int .i64 t185] (fun _ => True) (fun _ => False) rfl rfl ?aP (fun _ hk => hk.elim) ?aF ?aO ?aB ?aS ?aL ?_; (case aP => exact k32_mkM _ _ _ (⟨t180, t181, t182, (⟨t183, t184, t185⟩ : S30)⟩ : S32)); (case aB => exact (by repeat (first | (with_reducible first | exact HB.out | apply below_alloc | apply pw_below_drewN | apply below_drew1) | exact HB.out))); (case aF => exact (fun _ _ => trivial)); (case aO => exact (by (with_reducible repeat (first | apply Kd.R_alloc | apply Kd.R_drewN | apply Kd.R_drew)); exact HO_9.out)); (case aS => exact (below_size (by repeat (first | (with_reducible first | exact HB.out | apply below_alloc | apply pw_below_drewN | apply below_drew1) | exact HB.out)))); (case aL => have := LMc57.out; omega); intro v187 w62 ho hb hg hat; rw [← Ny186.out] at ho; have n0_ := Aside0.mk (Kd.R_over' (by (with_reducible repeat (first | apply Kd.R_alloc | apply Kd.R_drewN | apply Kd.R_drew)); exact HO_5.out) (Kd.R_typed (by (with_reducible repeat (first | apply Kd.R_alloc | apply Kd.R_drewN | apply Kd.R_drew)); exact HO_9.out)) (by decide) hg); have n1_ := Aside0.mk (Kd.R_over' (by (with_reducible repeat (first | apply Kd.R_alloc | apply Kd.R_drewN | apply Kd.R_drew)); exact HO_8.out) (Kd.R_typed (by (with_reducible repeat (first | apply Kd.R_alloc | apply Kd.R_drewN | apply Kd.R_drew)); exact HO_9.out)) (by decide) hg); have n2_ := Aside0.mk (hb); have n3_ := Aside0.mk (ho); clear HO_5; clear HO_8; clear HB; clear HO_9; have HO_5 := n0_; have HO_8 := n1_; have HB := n2_; have HO188 := n3_; clear n0_ n1_ n2_ n3_; clear ho hb hg hat))
                                            go_roundg k3
                                            case measure => have := HJ2.out; have := HK2.out; have := HK3.out; omega
                                            case rel => exact ⟨(y178), (y186), (wrap64 (x10_3 + 1)), (by first | rfl | (simp; done) | (simp [*]; done)), H', ⟨by have := HJ2.out; have := HK2.out; have := HK3.out; omega⟩, ⟨by (try simp only [hl5_2]); (with_reducible repeat (first | apply Kd.R_alloc | apply Kd.R_drewN | apply Kd.R_drew)); exact HO_5.out⟩, ⟨by (try simp only [hl5_2]); (with_reducible repeat (first | apply Kd.R_alloc | apply Kd.R_drewN | apply Kd.R_drew)); exact HO_8.out⟩, ⟨by (try simp only [hl5_2]); (with_reducible repeat (first | apply Kd.R_alloc | apply Kd.R_drewN | apply Kd.R_drew)); exact HO188.out⟩, ⟨by repeat (first | (with_reducible first | exact HB.out | apply below_alloc | apply pw_below_drewN | apply below_drew1) | exact HB.out)⟩⟩
                                          · rw [if_neg c57] at H
                                            exact absurd H (by simp)
                                        · rw [if_neg c55] at H
                                          exact absurd H (by simp)
                                      · rw [if_neg c53] at H
                                        exact absurd H (by simp)
                                    · replace c52 := Bool.eq_false_iff.mpr c52
                                      subst c52
                                      have H1 : (backreachref06_Term.l2 k3 l0 a1 x5_2 x8_3 x9_3 (wrap64 (x10_3 + 1))) = some r := by rw [if_neg (show ¬ (false = true) by decide)] at H; exact H
                                      clear H
                                      have H := H1
                                      clear H1
                                      have H' := Aside0.mk H
                                      clear H
                                      have p177 : 0 ≤ (x10_3 : Int) := of_decide_eq_true (by first | (with_reducible assumption) | assumption)
                                      have q177 : x10_3 < (x5_2.length : Int) := of_decide_eq_true (by first | (with_reducible assumption) | assumption)
                                      obtain ⟨ad177, e177, hx177_0⟩ := Kd.at_bool (Kd.R_reads' HO_5.out).2.2 x10_3 p177 q177
                                      (try rw [← Nbq51.out] at hx177_0)
                                      obtain rfl : (⟨go10, 0, none⟩ : Addr) = ad177 := (by injection e177)
                                      (first | simp only [add_plain] at hx177_0 | simp only [add_at] at hx177_0 | simp only [Addr.add, Nat.zero_add] at hx177_0 | skip)
                                      replace p177 := eq_true p177
                                      replace q177 := eq_true q177
                                      go_wp2
                                      go_roundg k3
                                      case measure => have := HJ2.out; have := HK2.out; have := HK3.out; omega
                                      case rel => exact ⟨(x8_3), (x9_3), (wrap64 (x10_3 + 1)), (by first | rfl | (simp; done) | (simp [*]; done)), H', ⟨by have := HJ2.out; have := HK2.out; have := HK3.out; omega⟩, ⟨by (try simp only [hl5_2]); (with_reducible repeat (first | apply Kd.R_alloc | apply Kd.R_drewN | apply Kd.R_drew)); exact HO_5.out⟩, ⟨by (try simp only [hl5_2]); (with_reducible repeat (first | apply Kd.R_alloc | apply Kd.R_drewN | apply Kd.R_drew)); exact HO_8.out⟩, ⟨by (try simp only [hl5_2]); (with_reducible repeat (first | apply Kd.R_alloc | apply Kd.R_drewN | apply Kd.R_drew)); exact HO_9.out⟩, ⟨by repeat (first | (with_reducible first | exact HB.out | apply below_alloc | apply pw_below_drewN | apply below_drew1) | exact HB.out)⟩⟩
                                  · rw [if_neg c50] at H
                                    exact absurd H (by simp)
                                · rw [if_neg c49] at H
                                  exact absurd H (by simp)
                              · rw [if_neg c48] at H
                                have c48b0 : decide (x10_3 ≤ a1) = false := decide_eq_false c48
                                clear c48
                                obtain rfl := Option.some.inj H
                                go_wp2
                                go_ret
                                exact ⟨_, by first | rfl | (simp [errW_none, errW_some] <;> rfl) | (simp [*, errW_none, errW_some] <;> rfl), by (with_reducible repeat (first | apply Kd.R_alloc | apply Kd.R_drewN | apply Kd.R_drew)); exact HO_9.out, by repeat (first | (with_reducible first | exact HB.out | apply below_alloc | apply pw_below_drewN | apply below_drew1) | exact HB.out)⟩
                        · rw [if_neg c45] at H
                          exact absurd H (by simp)
                      · rw [if_neg c44] at H
                        exact absurd H (by simp)
              · rw [if_neg c9] at H
                exact absurd H (by simp)
            · rw [if_neg c8] at H
              exact absurd H (by simp)
          · rw [if_neg c7] at H
            exact absurd H (by simp)
        · rw [if_neg c6] at H
          exact absurd H (by simp)

end Go.Proofs.Ytkindfbbklkjdaa.P
