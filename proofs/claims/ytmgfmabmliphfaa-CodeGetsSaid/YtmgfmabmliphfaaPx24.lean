/- What Go functions compute, and their walks: written by a program of this session (a turned copy of the kit's print) out of the translation. -/
import Derived.Test.YtmgfmabmliphfaaPx0
import Derived.Test.YtmgfmabmliphfaaPx1
import Derived.Test.YtmgfmabmliphfaaPx8
import Derived.Test.YtmgfmabmliphfaaPx9
import Derived.Test.YtmgfmabmliphfaaPx20
import Derived.Test.YtmgfmabmliphfaaPx23
namespace Go.Proofs.Ytmgfmabmliphfaa.P
open Go.RowKit Go.Proofs.YtmgfmabmliphfaaW.PrintWords Go.Proofs.YtmgfmabmliphfaaW.PrintLast Go.Proofs.YtmgfmabmliphfaaW.PrintMore
attribute [local go_sem] max2_int min2_int max_two min_two max_three min_three max_four min_four   -- for this text's walks alone
set_option linter.unusedVariables false
set_option linter.unusedSimpArgs false

attribute [local go_sem high] eqA30
/-! ### backreachlaw02_CodeGets: function 5 -/
def backreachlaw02_CodeGets.j0 : Nat → List Int → Int → Bool → Int → Int → Int → Int → Int → Option (Bool)
  | 0, _, _, _, _, _, _, _, _ => none
  | k + 1, x0, x4, x42, x264000, x264001, x264002, x264003, x264004 => if x42 = true then (some false) else (if x4 = 0 then ((code_Put.f k x264000 x264001 x264002 x264003 x264004).bind fun bt272 => (if bt272.2 = 0 then (if 12 ≤ (x0.length : Int) then (some ((strOfNums bt272.1).toList == (strOfNums (x0.take 12)).toList)) else (none)) else (some false))) else (some true))
def backreachlaw02_CodeGets.f (k : Nat) (l0 : List Int) : Option (Bool) := (backreachlaw02_awake.f k).bind fun t249 => (if t249 = true then (if (l0.length : Int) > 1000 then (some true) else ((some (([] : List Int) : List Int)).bind fun y250 => (if y250.length + l0.length < 140737488355328 then ((code_Get.f k (y250 ++ l0)).bind fun bt256 => ((backreachref02_Get.f k l0).bind fun bt264 => (if (!(bt256.1 == bt264.1) || (!(bt256.2.1 == bt264.2.1) || (!(bt256.2.2.1 == bt264.2.2.1) || (!(bt256.2.2.2.1 == bt264.2.2.2.1) || (!(bt256.2.2.2.2.1 == bt264.2.2.2.2.1)))))) = true then (backreachlaw02_CodeGets.j0 k l0 bt256.2.2.2.2.2.1 true bt256.1 bt256.2.1 bt256.2.2.1 bt256.2.2.2.1 bt256.2.2.2.2.1) else (if bt256.2.2.2.2.2.1 = bt264.2.2.2.2.2.1 then (backreachlaw02_CodeGets.j0 k l0 bt256.2.2.2.2.2.1 (bt256.2.2.2.2.2.2 != bt264.2.2.2.2.2.2) bt256.1 bt256.2.1 bt256.2.2.1 bt256.2.2.2.1 bt256.2.2.2.2.1) else (backreachlaw02_CodeGets.j0 k l0 bt256.2.2.2.2.2.1 true bt256.1 bt256.2.1 bt256.2.2.1 bt256.2.2.2.1 bt256.2.2.2.2.1))))) else (none)))) else (some false))
theorem backreachlaw02_CodeGets.mono_l : ∀ k, (∀ y0 y1 y2 y3 y4 y5 y6 y7, LeO (backreachlaw02_CodeGets.j0 k y0 y1 y2 y3 y4 y5 y6 y7) (backreachlaw02_CodeGets.j0 (k + 1) y0 y1 y2 y3 y4 y5 y6 y7))
  | 0 => fun _ _ _ _ _ _ _ _ r h => by simp [backreachlaw02_CodeGets.j0] at h
  | k + 1 => by
    have ih0 := backreachlaw02_CodeGets.mono_l k
    · intro y0 y1 y2 y3 y4 y5 y6 y7
      unfold backreachlaw02_CodeGets.j0
      repeat' first
      | (with_reducible exact ih0 _ _ _ _ _ _ _ _)
      | (with_reducible exact backreachlaw02_awake.mono _)
      | (with_reducible exact backreachref02_Get.mono _ _)
      | (with_reducible exact code_Get.mono _ _)
      | (with_reducible exact code_Put.mono _ _ _ _ _ _)
      | (with_reducible exact LeO.refl _)
      | (with_reducible exact LeO.none _)
      | (with_reducible refine LeO.ite ?_ ?_)
      | (with_reducible refine LeO.bind ?_ (fun _ => ?_))
      | exact ih0 _ _ _ _ _ _ _ _
      | exact backreachlaw02_awake.mono _
      | exact backreachref02_Get.mono _ _
      | exact code_Get.mono _ _
      | exact code_Put.mono _ _ _ _ _ _
      | exact LeO.none _
      | refine LeO.ite ?_ ?_
      | refine LeO.bind ?_ (fun _ => ?_)
theorem backreachlaw02_CodeGets.mono : ∀ a0 k, LeO (backreachlaw02_CodeGets.f k a0) (backreachlaw02_CodeGets.f (k + 1) a0) := by
  intro a0 k
  have ih0 := backreachlaw02_CodeGets.mono_l k
  unfold backreachlaw02_CodeGets.f
  repeat' first
      | (with_reducible exact ih0 _ _ _ _ _ _ _ _)
      | (with_reducible exact backreachlaw02_awake.mono _)
      | (with_reducible exact backreachref02_Get.mono _ _)
      | (with_reducible exact code_Get.mono _ _)
      | (with_reducible exact code_Put.mono _ _ _ _ _ _)
      | (with_reducible exact LeO.refl _)
      | (with_reducible exact LeO.none _)
      | (with_reducible refine LeO.ite ?_ ?_)
      | (with_reducible refine LeO.bind ?_ (fun _ => ?_))
      | exact ih0 _ _ _ _ _ _ _ _
      | exact backreachlaw02_awake.mono _
      | exact backreachref02_Get.mono _ _
      | exact code_Get.mono _ _
      | exact code_Put.mono _ _ _ _ _ _
      | exact LeO.none _
      | refine LeO.ite ?_ ?_
      | refine LeO.bind ?_ (fun _ => ?_)
set_option maxHeartbeats 8000000 in
set_option maxRecDepth 100000 in
theorem backreachlaw02_CodeGets.calls (k : Nat) (A0 : Option Addr) (c0 : Nat) (l0 : List Int) (r : Bool) (w : World) (hr0 : Kd.C (Kd.int .u8) w A0 l0.length l0) (hc0 : l0.length ≤ c0) (h : backreachlaw02_CodeGets.f k l0 = some r) :
    Calls Try.prog 5 #[.slice A0 l0.length c0] w fun e w' => e = .returned (.bool r) ∧ Below w.heap.size w w' := by
  have hu30 := Try.underlying30
  have HR0 := Aside0.mk hr0
  have HC0 := Aside0.mk hc0
  clear hr0 hc0
  have HB := Aside0.mk (Below.refl w.heap.size w)
  have H : ((backreachlaw02_awake.f k).bind fun t249 => (if t249 = true then (if (l0.length : Int) > 1000 then (some true) else ((some (([] : List Int) : List Int)).bind fun y250 => (if y250.length + l0.length < 140737488355328 then ((code_Get.f k (y250 ++ l0)).bind fun bt256 => ((backreachref02_Get.f k l0).bind fun bt264 => (if (!(bt256.1 == bt264.1) || (!(bt256.2.1 == bt264.2.1) || (!(bt256.2.2.1 == bt264.2.2.1) || (!(bt256.2.2.2.1 == bt264.2.2.2.1) || (!(bt256.2.2.2.2.1 == bt264.2.2.2.2.1)))))) = true then (backreachlaw02_CodeGets.j0 k l0 bt256.2.2.2.2.2.1 true bt256.1 bt256.2.1 bt256.2.2.1 bt256.2.2.2.1 bt256.2.2.2.2.1) else (if bt256.2.2.2.2.2.1 = bt264.2.2.2.2.2.1 then (backreachlaw02_CodeGets.j0 k l0 bt256.2.2.2.2.2.1 (bt256.2.2.2.2.2.2 != bt264.2.2.2.2.2.2) bt256.1 bt256.2.1 bt256.2.2.1 bt256.2.2.2.1 bt256.2.2.2.2.1) else (backreachlaw02_CodeGets.j0 k l0 bt256.2.2.2.2.2.1 true bt256.1 bt256.2.1 bt256.2.2.1 bt256.2.2.2.1 bt256.2.2.2.2.1))))) else (none)))) else (some false))) = some r := h
  clear h
  replace H := Option.bind_eq_some_iff.mp H
  obtain ⟨t249, A20, H⟩ := H
  replace H : (if t249 = true then (if (l0.length : Int) > 1000 then (some true) else ((some (([] : List Int) : List Int)).bind fun y250 => (if y250.length + l0.length < 140737488355328 then ((code_Get.f k (y250 ++ l0)).bind fun bt256 => ((backreachref02_Get.f k l0).bind fun bt264 => (if (!(bt256.1 == bt264.1) || (!(bt256.2.1 == bt264.2.1) || (!(bt256.2.2.1 == bt264.2.2.1) || (!(bt256.2.2.2.1 == bt264.2.2.2.1) || (!(bt256.2.2.2.2.1 == bt264.2.2.2.2.1)))))) = true then (backreachlaw02_CodeGets.j0 k l0 bt256.2.2.2.2.2.1 true bt256.1 bt256.2.1 bt256.2.2.1 bt256.2.2.2.1 bt256.2.2.2.2.1) else (if bt256.2.2.2.2.2.1 = bt264.2.2.2.2.2.1 then (backreachlaw02_CodeGets.j0 k l0 bt256.2.2.2.2.2.1 (bt256.2.2.2.2.2.2 != bt264.2.2.2.2.2.2) bt256.1 bt256.2.1 bt256.2.2.1 bt256.2.2.2.1 bt256.2.2.2.2.1) else (backreachlaw02_CodeGets.j0 k l0 bt256.2.2.2.2.2.1 true bt256.1 bt256.2.1 bt256.2.2.1 bt256.2.2.2.1 bt256.2.2.2.2.1))))) else (none)))) else (some false)) = some r := H
  have A2 := Aside0.mk A20
  clear A20
  by_cases c3 : t249 = true
  · subst c3
    have H1 : (if (l0.length : Int) > 1000 then (some true) else ((some (([] : List Int) : List Int)).bind fun y250 => (if y250.length + l0.length < 140737488355328 then ((code_Get.f k (y250 ++ l0)).bind fun bt256 => ((backreachref02_Get.f k l0).bind fun bt264 => (if (!(bt256.1 == bt264.1) || (!(bt256.2.1 == bt264.2.1) || (!(bt256.2.2.1 == bt264.2.2.1) || (!(bt256.2.2.2.1 == bt264.2.2.2.1) || (!(bt256.2.2.2.2.1 == bt264.2.2.2.2.1)))))) = true then (backreachlaw02_CodeGets.j0 k l0 bt256.2.2.2.2.2.1 true bt256.1 bt256.2.1 bt256.2.2.1 bt256.2.2.2.1 bt256.2.2.2.2.1) else (if bt256.2.2.2.2.2.1 = bt264.2.2.2.2.2.1 then (backreachlaw02_CodeGets.j0 k l0 bt256.2.2.2.2.2.1 (bt256.2.2.2.2.2.2 != bt264.2.2.2.2.2.2) bt256.1 bt256.2.1 bt256.2.2.1 bt256.2.2.2.1 bt256.2.2.2.2.1) else (backreachlaw02_CodeGets.j0 k l0 bt256.2.2.2.2.2.1 true bt256.1 bt256.2.1 bt256.2.2.1 bt256.2.2.2.1 bt256.2.2.2.2.1))))) else (none)))) = some r := by rw [if_pos rfl] at H; exact H
    clear H
    have H := H1
    clear H1
    by_cases c4 : (l0.length : Int) > 1000
    · rw [if_pos c4] at H
      have c4b0 : decide (1000 < (l0.length : Int)) = true := decide_eq_true c4
      have c4b1 : decide (1000 < l0.length) = true := decide_eq_true (by omega)
      clear c4
      obtain rfl := Option.some.inj H
      go_enter Try.func5, Try.ntmps5
      go_wp2_with (first | (go_at_call 7; (with_reducible refine (backreachlaw02_awake.calls k  true _ A2.out).mono ?_); rintro e w5 ⟨rfl, hb⟩; have n0_ := Aside0.mk (below_step (by repeat (first | (with_reducible first | exact HB.out | apply below_alloc | apply pw_below_drewN | apply below_drew1) | exact HB.out)) hb); clear HB; have HB := n0_; clear n0_; (try clear hb); (try clear hb2); (try clear hk); (try clear hi)))
      repeat (go_quiet (fail); try go_wp2_with (first | (go_at_call 7; (with_reducible refine (backreachlaw02_awake.calls k  true _ A2.out).mono ?_); rintro e w5 ⟨rfl, hb⟩; have n0_ := Aside0.mk (below_step (by repeat (first | (with_reducible first | exact HB.out | apply below_alloc | apply pw_below_drewN | apply below_drew1) | exact HB.out)) hb); clear HB; have HB := n0_; clear n0_; (try clear hb); (try clear hb2); (try clear hk); (try clear hi))))
      go_ret
      exact ⟨by first | rfl | (simp [errW_none, errW_some] <;> rfl) | (simp [*, errW_none, errW_some] <;> rfl), by repeat (first | (with_reducible first | exact HB.out | apply below_alloc | apply pw_below_drewN | apply below_drew1) | exact HB.out)⟩
    · rw [if_neg c4] at H
      have c4b0 : decide (1000 < (l0.length : Int)) = false := decide_eq_false c4
      have c4b1 : decide (1000 < l0.length) = false := decide_eq_false (by omega)
      clear c4
      obtain ⟨y250, hy250⟩ : ∃ y_ : List Int, y_ = (([] : List Int)) := ⟨_, rfl⟩
      replace H : (if y250.length + l0.length < 140737488355328 then ((code_Get.f k (y250 ++ l0)).bind fun bt256 => ((backreachref02_Get.f k l0).bind fun bt264 => (if (!(bt256.1 == bt264.1) || (!(bt256.2.1 == bt264.2.1) || (!(bt256.2.2.1 == bt264.2.2.1) || (!(bt256.2.2.2.1 == bt264.2.2.2.1) || (!(bt256.2.2.2.2.1 == bt264.2.2.2.2.1)))))) = true then (backreachlaw02_CodeGets.j0 k l0 bt256.2.2.2.2.2.1 true bt256.1 bt256.2.1 bt256.2.2.1 bt256.2.2.2.1 bt256.2.2.2.2.1) else (if bt256.2.2.2.2.2.1 = bt264.2.2.2.2.2.1 then (backreachlaw02_CodeGets.j0 k l0 bt256.2.2.2.2.2.1 (bt256.2.2.2.2.2.2 != bt264.2.2.2.2.2.2) bt256.1 bt256.2.1 bt256.2.2.1 bt256.2.2.2.1 bt256.2.2.2.2.1) else (backreachlaw02_CodeGets.j0 k l0 bt256.2.2.2.2.2.1 true bt256.1 bt256.2.1 bt256.2.2.1 bt256.2.2.2.1 bt256.2.2.2.2.1))))) else (none)) = some r := by first | (rw [hy250]; with_reducible exact H) | (have H2_ := (Option.bind_some _ _).symm.trans H; rw [hy250]; with_reducible exact H2_) | (have H2_ := (Option.bind_some _ _).symm.trans H; with_reducible exact H2_) | with_reducible exact H | (rw [hy250]; exact H) | exact H
      have Ny250 := Aside0.mk hy250
      clear hy250
      by_cases c6 : y250.length + l0.length < 140737488355328
      · rw [if_pos c6] at H
        have LMc6 := Aside0.mk c6
        clear c6
        obtain ⟨y253, hy253⟩ : ∃ y_ : List Int, y_ = (y250 ++ l0) := ⟨_, rfl⟩
        replace H : ((code_Get.f k y253).bind fun bt256 => ((backreachref02_Get.f k l0).bind fun bt264 => (if (!(bt256.1 == bt264.1) || (!(bt256.2.1 == bt264.2.1) || (!(bt256.2.2.1 == bt264.2.2.1) || (!(bt256.2.2.2.1 == bt264.2.2.2.1) || (!(bt256.2.2.2.2.1 == bt264.2.2.2.2.1)))))) = true then (backreachlaw02_CodeGets.j0 k l0 bt256.2.2.2.2.2.1 true bt256.1 bt256.2.1 bt256.2.2.1 bt256.2.2.2.1 bt256.2.2.2.2.1) else (if bt256.2.2.2.2.2.1 = bt264.2.2.2.2.2.1 then (backreachlaw02_CodeGets.j0 k l0 bt256.2.2.2.2.2.1 (bt256.2.2.2.2.2.2 != bt264.2.2.2.2.2.2) bt256.1 bt256.2.1 bt256.2.2.1 bt256.2.2.2.1 bt256.2.2.2.2.1) else (backreachlaw02_CodeGets.j0 k l0 bt256.2.2.2.2.2.1 true bt256.1 bt256.2.1 bt256.2.2.1 bt256.2.2.2.1 bt256.2.2.2.2.1))))) = some r := by first | (rw [hy253]; with_reducible exact H) | (have H2_ := (Option.bind_some _ _).symm.trans H; rw [hy253]; with_reducible exact H2_) | (have H2_ := (Option.bind_some _ _).symm.trans H; with_reducible exact H2_) | with_reducible exact H | (rw [hy253]; exact H) | exact H
        have Ny253 := Aside0.mk hy253
        clear hy253
        replace H := Option.bind_eq_some_iff.mp H
        obtain ⟨⟨t256, t257, t258, t259, t260, t261, t262⟩, A70, H⟩ := H
        replace H : ((backreachref02_Get.f k l0).bind fun bt264 => (if (!(t256 == bt264.1) || (!(t257 == bt264.2.1) || (!(t258 == bt264.2.2.1) || (!(t259 == bt264.2.2.2.1) || (!(t260 == bt264.2.2.2.2.1)))))) = true then (backreachlaw02_CodeGets.j0 k l0 t261 true t256 t257 t258 t259 t260) else (if t261 = bt264.2.2.2.2.2.1 then (backreachlaw02_CodeGets.j0 k l0 t261 (t262 != bt264.2.2.2.2.2.2) t256 t257 t258 t259 t260) else (backreachlaw02_CodeGets.j0 k l0 t261 true t256 t257 t258 t259 t260)))) = some r := H
        have A7 := Aside0.mk A70
        clear A70
        replace H := Option.bind_eq_some_iff.mp H
        obtain ⟨⟨t264, t265, t266, t267, t268, t269, t270⟩, A80, H⟩ := H
        replace H : (if (!(t256 == t264) || (!(t257 == t265) || (!(t258 == t266) || (!(t259 == t267) || (!(t260 == t268)))))) = true then (backreachlaw02_CodeGets.j0 k l0 t261 true t256 t257 t258 t259 t260) else (if t261 = t269 then (backreachlaw02_CodeGets.j0 k l0 t261 (t262 != t270) t256 t257 t258 t259 t260) else (backreachlaw02_CodeGets.j0 k l0 t261 true t256 t257 t258 t259 t260))) = some r := H
        have A8 := Aside0.mk A80
        clear A80
        have HC9 := Aside0.mk H
        clear H
        go_enter Try.func5, Try.ntmps5
        go_upto_region 7 with (first | (go_at_call 7; (with_reducible refine (backreachlaw02_awake.calls k  true _ A2.out).mono ?_); rintro e w10 ⟨rfl, hb⟩; have n0_ := Aside0.mk (below_step (by repeat (first | (with_reducible first | exact HB.out | apply below_alloc | apply pw_below_drewN | apply below_drew1) | exact HB.out)) hb); clear HB; have HB := n0_; clear n0_; (try clear hb); (try clear hb2); (try clear hk); (try clear hi)) | ((with_reducible refine gate_dst (N := 17) rfl ?_); refine Kd.R_lit (Kd.int .u8) _ 5 ?hg (N := 17) ?hd (xs := ([] : List Int)) (inner := []) (ok := fun _ => True) (okp := fun _ => True) ?hr ?hp (fun _ hk => hk) trivial (Below.refl _ _) (Nat.le_refl _) (by simp) ?_; (case hd => rfl); (case hg => rfl); (case hr => first | (go_simp; done) | (go_simp; rfl)); (case hp => exact (Reps.none _ _)); intro v251 w11 ho12 hb hg_ hnew_; clear hg_ hnew_; (first | rw [← Ny250.out] at ho12 | (simp only [Int.reduceToNat] at ho12; rw [← Ny250.out] at ho12)); have n0_ := Aside0.mk (Kd.R_lower ho12 (below_size (by repeat (first | (with_reducible first | exact HB.out | apply below_alloc | apply pw_below_drewN | apply below_drew1) | exact HB.out)))); have n1_ := Aside0.mk (below_step (by repeat (first | (with_reducible first | exact HB.out | apply below_alloc | apply pw_below_drewN | apply below_drew1) | exact HB.out)) hb); clear HB; have HO252 := n0_; have HB := n1_; clear n0_ n1_; clear hb ho12) | ((with_reducible refine gate_builtin (b := .append) (xs := #[.tmp 17, .tmp 18]) rfl ?_); at_builtin; refine Kd.R_append_rows (Kd.int .u8) (w0 := w) w.heap.size rfl (.tmp 17) (.tmp 18) 31 5 (.int .u8 0) 1 rfl Try.underlying31 info5 rfl (by decide) (by omega) v251 y250 l0 _ _ _ (fun _ => True) (fun _ => False) rfl rfl ?aO ?aR (fun _ _ h => h) (fun _ h => h.elim) ?aF ?aB ?aS ?aL ?_; (case aR => repeat (first | exact (Kd.C_below HR0.out HB.out) | (with_reducible refine Kd.C_alloc ?_ _) | (with_reducible refine Kd.C_drewN ?_ _) | (with_reducible refine Kd.C_drew ?_))); (case aB => exact (by repeat (first | (with_reducible first | exact HB.out | apply below_alloc | apply pw_below_drewN | apply below_drew1) | exact HB.out))); (case aF => exact (fun _ _ => trivial)); (case aO => exact (by (with_reducible repeat (first | apply Kd.R_alloc | apply Kd.R_drewN | apply Kd.R_drew)); exact HO252.out)); (case aS => exact (below_size (by repeat (first | (with_reducible first | exact HB.out | apply below_alloc | apply pw_below_drewN | apply below_drew1) | exact HB.out)))); (case aL => have := LMc6.out; omega); intro v254 w13 ho hb hg hat; rw [← Ny253.out] at ho; have n0_ := Aside0.mk (hb); have n1_ := Aside0.mk (ho); clear HB; clear HO252; have HB := n0_; have HO255 := n1_; clear n0_ n1_; clear ho hb hg hat; obtain ⟨Ao14, co14, eo14⟩ := Kd.R_slice HO255.out; subst eo14) | (go_at_call 16; (with_reducible refine (code_Get.calls k _ _ y253 t256 t257 t258 t259 t260 t261 t262 _ ?side1 ?side2 A7.out).mono ?_); (case side1 => repeat (first | exact (Kd.R_reads' HO255.out).2.2 | (with_reducible refine Kd.C_alloc ?_ _) | (with_reducible refine Kd.C_drewN ?_ _) | (with_reducible refine Kd.C_drew ?_))); (case side2 => exact (Kd.R_reads' HO255.out).2.1); rintro e w15 ⟨rfl, hb⟩; have n0_ := Aside0.mk (Kd.R_below (by (with_reducible repeat (first | apply Kd.R_alloc | apply Kd.R_drewN | apply Kd.R_drew)); exact HO255.out) hb); have n1_ := Aside0.mk (below_step (by repeat (first | (with_reducible first | exact HB.out | apply below_alloc | apply pw_below_drewN | apply below_drew1) | exact HB.out)) hb); clear HO255; clear HB; have HO255 := n0_; have HB := n1_; clear n0_ n1_; (try clear hb); (try clear hb2); (try clear hk); (try clear hi)) | ((with_reducible refine gate_dst (N := 3) rfl ?_); refine box_event ?hg (N := 3) ?hd (cs := #[.int .i64 0, .int .i64 0, .int .i64 0, .int .i64 0, .int .u64 0]) (t := 30) ?hr ?_; (case hd => rfl); (case hg => rfl); (case hr => first | (go_simp; done) | (go_simp; rfl)); intro gb263 hg w16 hbox hb; have n0_ := Aside0.mk (Kd.R_below (by (with_reducible repeat (first | apply Kd.R_alloc | apply Kd.R_drewN | apply Kd.R_drew)); exact HO255.out) hb); have n1_ := Aside0.mk (below_step (by repeat (first | (with_reducible first | exact HB.out | apply below_alloc | apply pw_below_drewN | apply below_drew1) | exact HB.out)) hb); have n2_ := Aside0.mk (hbox); have n3_ := Aside0.mk ((by rw [hg]; exact (below_size (by repeat (first | (with_reducible first | exact HB.out | apply below_alloc | apply pw_below_drewN | apply below_drew1) | exact HB.out))) : w.heap.size ≤ gb263)); have n4_ := Aside0.mk ((by rw [hg]; exact (below_size (by repeat (first | (with_reducible first | exact HB.out | apply below_alloc | apply pw_below_drewN | apply below_drew1) | exact HB.out))) : w.heap.size ≤ gb263)); clear HO255; clear HB; have HO255 := n0_; have HB := n1_; have BK263 := n2_; have GW263 := n3_; have GE263 := n4_; clear n0_ n1_ n2_ n3_ n4_; clear hb hbox hg; have hcz17_0 : w16.cell? ⟨gb263, 0, none⟩ = some (.int .i64 0) := (blk_cell BK263.out 0).trans rfl; have hcz17_1 : w16.cell? ⟨gb263, 1, none⟩ = some (.int .i64 0) := (blk_cell BK263.out 1).trans rfl; have hcz17_2 : w16.cell? ⟨gb263, 2, none⟩ = some (.int .i64 0) := (blk_cell BK263.out 2).trans rfl; have hcz17_3 : w16.cell? ⟨gb263, 3, none⟩ = some (.int .i64 0) := (blk_cell BK263.out 3).trans rfl; have hcz17_4 : w16.cell? ⟨gb263, 4, none⟩ = some (.int .u64 0) := (blk_cell BK263.out 4).trans rfl; have hfz17_0 := blk_frozen BK263.out 0; have hfz17_1 := blk_frozen BK263.out 1; have hfz17_2 := blk_frozen BK263.out 2; have hfz17_3 := blk_frozen BK263.out 3; have hfz17_4 := blk_frozen BK263.out 4) | (go_at_call 17; (with_reducible refine (backreachref02_Get.calls k _ _ l0 t264 t265 t266 t267 t268 t269 t270 _ ?side1 ?side2 A8.out).mono ?_); (case side1 => exact Kd.C_below HR0.out (by repeat (first | (with_reducible first | exact HB.out | apply below_alloc | apply pw_below_drewN | apply below_drew1 | refine below_set ?_ GE263.out) | exact HB.out))); (case side2 => exact HC0.out); rintro e w18 ⟨rfl, hb⟩; have n0_ := Aside0.mk (Kd.R_below (by (with_reducible repeat (first | apply Kd.R_alloc | apply Kd.R_drewN | apply Kd.R_drew)); exact (Kd.R_mono (Kd.R_far (p := ⟨gb263, 4, none⟩) (Kd.R_far (p := ⟨gb263, 3, none⟩) (Kd.R_far (p := ⟨gb263, 2, none⟩) (Kd.R_far (p := ⟨gb263, 1, none⟩) (Kd.R_far (p := ⟨gb263, 0, none⟩) (Kd.R_types HO255.out BK263.out (by decide)) (fun _ hk => hk.2) (.int .i64 t256)) (fun _ hk => hk.2) (.int .i64 t257)) (fun _ hk => hk.2) (.int .i64 t258)) (fun _ hk => hk.2) (.int .i64 t259)) (fun _ hk => hk.2) (.int .u64 t260)) (fun _ h_ => h_.1))) hb); have n1_ := Aside0.mk (blk_below (g := gb263) (o := .cells #[.int .i64 t256, .int .i64 t257, .int .i64 t258, .int .i64 t259, .int .u64 t260] 30 (0, 0)) (by (with_reducible repeat (first | refine blk_drewN ?_ _ | refine blk_drew ?_ | refine blk_alloc ?_ _)); refine blk_put (cs := #[.int .i64 t256, .int .i64 t257, .int .i64 t258, .int .i64 t259, .int .u64 0]) ?_ 4 _ rfl; (with_reducible repeat (first | refine blk_drewN ?_ _ | refine blk_drew ?_ | refine blk_alloc ?_ _)); refine blk_put (cs := #[.int .i64 t256, .int .i64 t257, .int .i64 t258, .int .i64 0, .int .u64 0]) ?_ 3 _ rfl; (with_reducible repeat (first | refine blk_drewN ?_ _ | refine blk_drew ?_ | refine blk_alloc ?_ _)); refine blk_put (cs := #[.int .i64 t256, .int .i64 t257, .int .i64 0, .int .i64 0, .int .u64 0]) ?_ 2 _ rfl; (with_reducible repeat (first | refine blk_drewN ?_ _ | refine blk_drew ?_ | refine blk_alloc ?_ _)); refine blk_put (cs := #[.int .i64 t256, .int .i64 0, .int .i64 0, .int .i64 0, .int .u64 0]) ?_ 1 _ rfl; (with_reducible repeat (first | refine blk_drewN ?_ _ | refine blk_drew ?_ | refine blk_alloc ?_ _)); refine blk_put (cs := #[.int .i64 0, .int .i64 0, .int .i64 0, .int .i64 0, .int .u64 0]) ?_ 0 _ rfl; (with_reducible repeat (first | refine blk_drewN ?_ _ | refine blk_drew ?_ | refine blk_alloc ?_ _)); exact BK263.out) hb); have n2_ := Aside0.mk (below_step (by repeat (first | (with_reducible first | exact HB.out | apply below_alloc | apply pw_below_drewN | apply below_drew1 | refine below_set ?_ GE263.out) | exact HB.out)) hb); clear HO255; clear BK263; clear HB; have HO255 := n0_; have BK263 := n1_; have HB := n2_; clear n0_ n1_ n2_; (try clear hb); (try clear hb2); (try clear hk); (try clear hi)) | ((with_reducible refine gate_dst (N := 6) rfl ?_); refine box_event ?hg (N := 6) ?hd (cs := #[.int .i64 0, .int .i64 0, .int .i64 0, .int .i64 0, .int .u64 0]) (t := 30) ?hr ?_; (case hd => rfl); (case hg => rfl); (case hr => first | (go_simp; done) | (go_simp; rfl)); intro gb271 hg w19 hbox hb; have n0_ := Aside0.mk (Kd.R_below (by (with_reducible repeat (first | apply Kd.R_alloc | apply Kd.R_drewN | apply Kd.R_drew)); exact HO255.out) hb); have n1_ := Aside0.mk (blk_below (g := gb263) (o := .cells #[.int .i64 t256, .int .i64 t257, .int .i64 t258, .int .i64 t259, .int .u64 t260] 30 (0, 0)) (by (with_reducible repeat (first | refine blk_drewN ?_ _ | refine blk_drew ?_ | refine blk_alloc ?_ _)); exact BK263.out) hb); have n2_ := Aside0.mk (below_step (by repeat (first | (with_reducible first | exact HB.out | apply below_alloc | apply pw_below_drewN | apply below_drew1 | refine below_set ?_ GE263.out) | exact HB.out)) hb); have n3_ := Aside0.mk (hbox); have n4_ := Aside0.mk ((by rw [hg]; exact (below_size (by repeat (first | (with_reducible first | exact HB.out | apply below_alloc | apply pw_below_drewN | apply below_drew1 | refine below_set ?_ GE263.out) | exact HB.out))) : w.heap.size ≤ gb271)); have n5_ := Aside0.mk ((by rw [hg]; exact (below_size (by repeat (first | (with_reducible first | exact HB.out | apply below_alloc | apply pw_below_drewN | apply below_drew1 | refine below_set ?_ GE263.out) | exact HB.out))) : w.heap.size ≤ gb271)); have n6_ := Aside0.mk ((by rw [hg]; exact Nat.ne_of_lt (blk_lt (g := gb263) (o := .cells #[.int .i64 t256, .int .i64 t257, .int .i64 t258, .int .i64 t259, .int .u64 t260] 30 (0, 0)) (by (with_reducible repeat (first | refine blk_drewN ?_ _ | refine blk_drew ?_ | refine blk_alloc ?_ _)); exact BK263.out)) : gb263 ≠ gb271)); have n7_ := Aside0.mk ((by rw [hg]; exact Nat.ne_of_gt (blk_lt (g := gb263) (o := .cells #[.int .i64 t256, .int .i64 t257, .int .i64 t258, .int .i64 t259, .int .u64 t260] 30 (0, 0)) (by (with_reducible repeat (first | refine blk_drewN ?_ _ | refine blk_drew ?_ | refine blk_alloc ?_ _)); exact BK263.out)) : gb271 ≠ gb263)); clear HO255; clear BK263; clear HB; have HO255 := n0_; have BK263 := n1_; have HB := n2_; have BK271 := n3_; have GW271 := n4_; have GE271 := n5_; have NB263_271 := n6_; have NB271_263 := n7_; clear n0_ n1_ n2_ n3_ n4_ n5_ n6_ n7_; clear hb hbox hg; have hnb20 := NB271_263.out; have hnc20 := NB263_271.out; have hcz21_0 : w19.cell? ⟨gb271, 0, none⟩ = some (.int .i64 0) := (blk_cell BK271.out 0).trans rfl; have hcz21_1 : w19.cell? ⟨gb271, 1, none⟩ = some (.int .i64 0) := (blk_cell BK271.out 1).trans rfl; have hcz21_2 : w19.cell? ⟨gb271, 2, none⟩ = some (.int .i64 0) := (blk_cell BK271.out 2).trans rfl; have hcz21_3 : w19.cell? ⟨gb271, 3, none⟩ = some (.int .i64 0) := (blk_cell BK271.out 3).trans rfl; have hcz21_4 : w19.cell? ⟨gb271, 4, none⟩ = some (.int .u64 0) := (blk_cell BK271.out 4).trans rfl; have hfz21_0 := blk_frozen BK271.out 0; have hfz21_1 := blk_frozen BK271.out 1; have hfz21_2 := blk_frozen BK271.out 2; have hfz21_3 := blk_frozen BK271.out 3; have hfz21_4 := blk_frozen BK271.out 4))
        repeat (go_quiet (first | (go_at_call 7; (with_reducible refine (backreachlaw02_awake.calls k  true _ A2.out).mono ?_); rintro e w10 ⟨rfl, hb⟩; have n0_ := Aside0.mk (below_step (by repeat (first | (with_reducible first | exact HB.out | apply below_alloc | apply pw_below_drewN | apply below_drew1) | exact HB.out)) hb); clear HB; have HB := n0_; clear n0_; (try clear hb); (try clear hb2); (try clear hk); (try clear hi)) | ((with_reducible refine gate_dst (N := 17) rfl ?_); refine Kd.R_lit (Kd.int .u8) _ 5 ?hg (N := 17) ?hd (xs := ([] : List Int)) (inner := []) (ok := fun _ => True) (okp := fun _ => True) ?hr ?hp (fun _ hk => hk) trivial (Below.refl _ _) (Nat.le_refl _) (by simp) ?_; (case hd => rfl); (case hg => rfl); (case hr => first | (go_simp; done) | (go_simp; rfl)); (case hp => exact (Reps.none _ _)); intro v251 w11 ho12 hb hg_ hnew_; clear hg_ hnew_; (first | rw [← Ny250.out] at ho12 | (simp only [Int.reduceToNat] at ho12; rw [← Ny250.out] at ho12)); have n0_ := Aside0.mk (Kd.R_lower ho12 (below_size (by repeat (first | (with_reducible first | exact HB.out | apply below_alloc | apply pw_below_drewN | apply below_drew1) | exact HB.out)))); have n1_ := Aside0.mk (below_step (by repeat (first | (with_reducible first | exact HB.out | apply below_alloc | apply pw_below_drewN | apply below_drew1) | exact HB.out)) hb); clear HB; have HO252 := n0_; have HB := n1_; clear n0_ n1_; clear hb ho12) | ((with_reducible refine gate_builtin (b := .append) (xs := #[.tmp 17, .tmp 18]) rfl ?_); at_builtin; refine Kd.R_append_rows (Kd.int .u8) (w0 := w) w.heap.size rfl (.tmp 17) (.tmp 18) 31 5 (.int .u8 0) 1 rfl Try.underlying31 info5 rfl (by decide) (by omega) v251 y250 l0 _ _ _ (fun _ => True) (fun _ => False) rfl rfl ?aO ?aR (fun _ _ h => h) (fun _ h => h.elim) ?aF ?aB ?aS ?aL ?_; (case aR => repeat (first | exact (Kd.C_below HR0.out HB.out) | (with_reducible refine Kd.C_alloc ?_ _) | (with_reducible refine Kd.C_drewN ?_ _) | (with_reducible refine Kd.C_drew ?_))); (case aB => exact (by repeat (first | (with_reducible first | exact HB.out | apply below_alloc | apply pw_below_drewN | apply below_drew1) | exact HB.out))); (case aF => exact (fun _ _ => trivial)); (case aO => exact (by (with_reducible repeat (first | apply Kd.R_alloc | apply Kd.R_drewN | apply Kd.R_drew)); exact HO252.out)); (case aS => exact (below_size (by repeat (first | (with_reducible first | exact HB.out | apply below_alloc | apply pw_below_drewN | apply below_drew1) | exact HB.out)))); (case aL => have := LMc6.out; omega); intro v254 w13 ho hb hg hat; rw [← Ny253.out] at ho; have n0_ := Aside0.mk (hb); have n1_ := Aside0.mk (ho); clear HB; clear HO252; have HB := n0_; have HO255 := n1_; clear n0_ n1_; clear ho hb hg hat; obtain ⟨Ao14, co14, eo14⟩ := Kd.R_slice HO255.out; subst eo14) | (go_at_call 16; (with_reducible refine (code_Get.calls k _ _ y253 t256 t257 t258 t259 t260 t261 t262 _ ?side1 ?side2 A7.out).mono ?_); (case side1 => repeat (first | exact (Kd.R_reads' HO255.out).2.2 | (with_reducible refine Kd.C_alloc ?_ _) | (with_reducible refine Kd.C_drewN ?_ _) | (with_reducible refine Kd.C_drew ?_))); (case side2 => exact (Kd.R_reads' HO255.out).2.1); rintro e w15 ⟨rfl, hb⟩; have n0_ := Aside0.mk (Kd.R_below (by (with_reducible repeat (first | apply Kd.R_alloc | apply Kd.R_drewN | apply Kd.R_drew)); exact HO255.out) hb); have n1_ := Aside0.mk (below_step (by repeat (first | (with_reducible first | exact HB.out | apply below_alloc | apply pw_below_drewN | apply below_drew1) | exact HB.out)) hb); clear HO255; clear HB; have HO255 := n0_; have HB := n1_; clear n0_ n1_; (try clear hb); (try clear hb2); (try clear hk); (try clear hi)) | ((with_reducible refine gate_dst (N := 3) rfl ?_); refine box_event ?hg (N := 3) ?hd (cs := #[.int .i64 0, .int .i64 0, .int .i64 0, .int .i64 0, .int .u64 0]) (t := 30) ?hr ?_; (case hd => rfl); (case hg => rfl); (case hr => first | (go_simp; done) | (go_simp; rfl)); intro gb263 hg w16 hbox hb; have n0_ := Aside0.mk (Kd.R_below (by (with_reducible repeat (first | apply Kd.R_alloc | apply Kd.R_drewN | apply Kd.R_drew)); exact HO255.out) hb); have n1_ := Aside0.mk (below_step (by repeat (first | (with_reducible first | exact HB.out | apply below_alloc | apply pw_below_drewN | apply below_drew1) | exact HB.out)) hb); have n2_ := Aside0.mk (hbox); have n3_ := Aside0.mk ((by rw [hg]; exact (below_size (by repeat (first | (with_reducible first | exact HB.out | apply below_alloc | apply pw_below_drewN | apply below_drew1) | exact HB.out))) : w.heap.size ≤ gb263)); have n4_ := Aside0.mk ((by rw [hg]; exact (below_size (by repeat (first | (with_reducible first | exact HB.out | apply below_alloc | apply pw_below_drewN | apply below_drew1) | exact HB.out))) : w.heap.size ≤ gb263)); clear HO255; clear HB; have HO255 := n0_; have HB := n1_; have BK263 := n2_; have GW263 := n3_; have GE263 := n4_; clear n0_ n1_ n2_ n3_ n4_; clear hb hbox hg; have hcz17_0 : w16.cell? ⟨gb263, 0, none⟩ = some (.int .i64 0) := (blk_cell BK263.out 0).trans rfl; have hcz17_1 : w16.cell? ⟨gb263, 1, none⟩ = some (.int .i64 0) := (blk_cell BK263.out 1).trans rfl; have hcz17_2 : w16.cell? ⟨gb263, 2, none⟩ = some (.int .i64 0) := (blk_cell BK263.out 2).trans rfl; have hcz17_3 : w16.cell? ⟨gb263, 3, none⟩ = some (.int .i64 0) := (blk_cell BK263.out 3).trans rfl; have hcz17_4 : w16.cell? ⟨gb263, 4, none⟩ = some (.int .u64 0) := (blk_cell BK263.out 4).trans rfl; have hfz17_0 := blk_frozen BK263.out 0; have hfz17_1 := blk_frozen BK263.out 1; have hfz17_2 := blk_frozen BK263.out 2; have hfz17_3 := blk_frozen BK263.out 3; have hfz17_4 := blk_frozen BK263.out 4) | (go_at_call 17; (with_reducible refine (backreachref02_Get.calls k _ _ l0 t264 t265 t266 t267 t268 t269 t270 _ ?side1 ?side2 A8.out).mono ?_); (case side1 => exact Kd.C_below HR0.out (by repeat (first | (with_reducible first | exact HB.out | apply below_alloc | apply pw_below_drewN | apply below_drew1 | refine below_set ?_ GE263.out) | exact HB.out))); (case side2 => exact HC0.out); rintro e w18 ⟨rfl, hb⟩; have n0_ := Aside0.mk (Kd.R_below (by (with_reducible repeat (first | apply Kd.R_alloc | apply Kd.R_drewN | apply Kd.R_drew)); exact (Kd.R_mono (Kd.R_far (p := ⟨gb263, 4, none⟩) (Kd.R_far (p := ⟨gb263, 3, none⟩) (Kd.R_far (p := ⟨gb263, 2, none⟩) (Kd.R_far (p := ⟨gb263, 1, none⟩) (Kd.R_far (p := ⟨gb263, 0, none⟩) (Kd.R_types HO255.out BK263.out (by decide)) (fun _ hk => hk.2) (.int .i64 t256)) (fun _ hk => hk.2) (.int .i64 t257)) (fun _ hk => hk.2) (.int .i64 t258)) (fun _ hk => hk.2) (.int .i64 t259)) (fun _ hk => hk.2) (.int .u64 t260)) (fun _ h_ => h_.1))) hb); have n1_ := Aside0.mk (blk_below (g := gb263) (o := .cells #[.int .i64 t256, .int .i64 t257, .int .i64 t258, .int .i64 t259, .int .u64 t260] 30 (0, 0)) (by (with_reducible repeat (first | refine blk_drewN ?_ _ | refine blk_drew ?_ | refine blk_alloc ?_ _)); refine blk_put (cs := #[.int .i64 t256, .int .i64 t257, .int .i64 t258, .int .i64 t259, .int .u64 0]) ?_ 4 _ rfl; (with_reducible repeat (first | refine blk_drewN ?_ _ | refine blk_drew ?_ | refine blk_alloc ?_ _)); refine blk_put (cs := #[.int .i64 t256, .int .i64 t257, .int .i64 t258, .int .i64 0, .int .u64 0]) ?_ 3 _ rfl; (with_reducible repeat (first | refine blk_drewN ?_ _ | refine blk_drew ?_ | refine blk_alloc ?_ _)); refine blk_put (cs := #[.int .i64 t256, .int .i64 t257, .int .i64 0, .int .i64 0, .int .u64 0]) ?_ 2 _ rfl; (with_reducible repeat (first | refine blk_drewN ?_ _ | refine blk_drew ?_ | refine blk_alloc ?_ _)); refine blk_put (cs := #[.int .i64 t256, .int .i64 0, .int .i64 0, .int .i64 0, .int .u64 0]) ?_ 1 _ rfl; (with_reducible repeat (first | refine blk_drewN ?_ _ | refine blk_drew ?_ | refine blk_alloc ?_ _)); refine blk_put (cs := #[.int .i64 0, .int .i64 0, .int .i64 0, .int .i64 0, .int .u64 0]) ?_ 0 _ rfl; (with_reducible repeat (first | refine blk_drewN ?_ _ | refine blk_drew ?_ | refine blk_alloc ?_ _)); exact BK263.out) hb); have n2_ := Aside0.mk (below_step (by repeat (first | (with_reducible first | exact HB.out | apply below_alloc | apply pw_below_drewN | apply below_drew1 | refine below_set ?_ GE263.out) | exact HB.out)) hb); clear HO255; clear BK263; clear HB; have HO255 := n0_; have BK263 := n1_; have HB := n2_; clear n0_ n1_ n2_; (try clear hb); (try clear hb2); (try clear hk); (try clear hi)) | ((with_reducible refine gate_dst (N := 6) rfl ?_); refine box_event ?hg (N := 6) ?hd (cs := #[.int .i64 0, .int .i64 0, .int .i64 0, .int .i64 0, .int .u64 0]) (t := 30) ?hr ?_; (case hd => rfl); (case hg => rfl); (case hr => first | (go_simp; done) | (go_simp; rfl)); intro gb271 hg w19 hbox hb; have n0_ := Aside0.mk (Kd.R_below (by (with_reducible repeat (first | apply Kd.R_alloc | apply Kd.R_drewN | apply Kd.R_drew)); exact HO255.out) hb); have n1_ := Aside0.mk (blk_below (g := gb263) (o := .cells #[.int .i64 t256, .int .i64 t257, .int .i64 t258, .int .i64 t259, .int .u64 t260] 30 (0, 0)) (by (with_reducible repeat (first | refine blk_drewN ?_ _ | refine blk_drew ?_ | refine blk_alloc ?_ _)); exact BK263.out) hb); have n2_ := Aside0.mk (below_step (by repeat (first | (with_reducible first | exact HB.out | apply below_alloc | apply pw_below_drewN | apply below_drew1 | refine below_set ?_ GE263.out) | exact HB.out)) hb); have n3_ := Aside0.mk (hbox); have n4_ := Aside0.mk ((by rw [hg]; exact (below_size (by repeat (first | (with_reducible first | exact HB.out | apply below_alloc | apply pw_below_drewN | apply below_drew1 | refine below_set ?_ GE263.out) | exact HB.out))) : w.heap.size ≤ gb271)); have n5_ := Aside0.mk ((by rw [hg]; exact (below_size (by repeat (first | (with_reducible first | exact HB.out | apply below_alloc | apply pw_below_drewN | apply below_drew1 | refine below_set ?_ GE263.out) | exact HB.out))) : w.heap.size ≤ gb271)); have n6_ := Aside0.mk ((by rw [hg]; exact Nat.ne_of_lt (blk_lt (g := gb263) (o := .cells #[.int .i64 t256, .int .i64 t257, .int .i64 t258, .int .i64 t259, .int .u64 t260] 30 (0, 0)) (by (with_reducible repeat (first | refine blk_drewN ?_ _ | refine blk_drew ?_ | refine blk_alloc ?_ _)); exact BK263.out)) : gb263 ≠ gb271)); have n7_ := Aside0.mk ((by rw [hg]; exact Nat.ne_of_gt (blk_lt (g := gb263) (o := .cells #[.int .i64 t256, .int .i64 t257, .int .i64 t258, .int .i64 t259, .int .u64 t260] 30 (0, 0)) (by (with_reducible repeat (first | refine blk_drewN ?_ _ | refine blk_drew ?_ | refine blk_alloc ?_ _)); exact BK263.out)) : gb271 ≠ gb263)); clear HO255; clear BK263; clear HB; have HO255 := n0_; have BK263 := n1_; have HB := n2_; have BK271 := n3_; have GW271 := n4_; have GE271 := n5_; have NB263_271 := n6_; have NB271_263 := n7_; clear n0_ n1_ n2_ n3_ n4_ n5_ n6_ n7_; clear hb hbox hg; have hnb20 := NB271_263.out; have hnc20 := NB263_271.out; have hcz21_0 : w19.cell? ⟨gb271, 0, none⟩ = some (.int .i64 0) := (blk_cell BK271.out 0).trans rfl; have hcz21_1 : w19.cell? ⟨gb271, 1, none⟩ = some (.int .i64 0) := (blk_cell BK271.out 1).trans rfl; have hcz21_2 : w19.cell? ⟨gb271, 2, none⟩ = some (.int .i64 0) := (blk_cell BK271.out 2).trans rfl; have hcz21_3 : w19.cell? ⟨gb271, 3, none⟩ = some (.int .i64 0) := (blk_cell BK271.out 3).trans rfl; have hcz21_4 : w19.cell? ⟨gb271, 4, none⟩ = some (.int .u64 0) := (blk_cell BK271.out 4).trans rfl; have hfz21_0 := blk_frozen BK271.out 0; have hfz21_1 := blk_frozen BK271.out 1; have hfz21_2 := blk_frozen BK271.out 2; have hfz21_3 := blk_frozen BK271.out 3; have hfz21_4 := blk_frozen BK271.out 4)); go_upto_region 7 with (first | (go_at_call 7; (with_reducible refine (backreachlaw02_awake.calls k  true _ A2.out).mono ?_); rintro e w10 ⟨rfl, hb⟩; have n0_ := Aside0.mk (below_step (by repeat (first | (with_reducible first | exact HB.out | apply below_alloc | apply pw_below_drewN | apply below_drew1) | exact HB.out)) hb); clear HB; have HB := n0_; clear n0_; (try clear hb); (try clear hb2); (try clear hk); (try clear hi)) | ((with_reducible refine gate_dst (N := 17) rfl ?_); refine Kd.R_lit (Kd.int .u8) _ 5 ?hg (N := 17) ?hd (xs := ([] : List Int)) (inner := []) (ok := fun _ => True) (okp := fun _ => True) ?hr ?hp (fun _ hk => hk) trivial (Below.refl _ _) (Nat.le_refl _) (by simp) ?_; (case hd => rfl); (case hg => rfl); (case hr => first | (go_simp; done) | (go_simp; rfl)); (case hp => exact (Reps.none _ _)); intro v251 w11 ho12 hb hg_ hnew_; clear hg_ hnew_; (first | rw [← Ny250.out] at ho12 | (simp only [Int.reduceToNat] at ho12; rw [← Ny250.out] at ho12)); have n0_ := Aside0.mk (Kd.R_lower ho12 (below_size (by repeat (first | (with_reducible first | exact HB.out | apply below_alloc | apply pw_below_drewN | apply below_drew1) | exact HB.out)))); have n1_ := Aside0.mk (below_step (by repeat (first | (with_reducible first | exact HB.out | apply below_alloc | apply pw_below_drewN | apply below_drew1) | exact HB.out)) hb); clear HB; have HO252 := n0_; have HB := n1_; clear n0_ n1_; clear hb ho12) | ((with_reducible refine gate_builtin (b := .append) (xs := #[.tmp 17, .tmp 18]) rfl ?_); at_builtin; refine Kd.R_append_rows (Kd.int .u8) (w0 := w) w.heap.size rfl (.tmp 17) (.tmp 18) 31 5 (.int .u8 0) 1 rfl Try.underlying31 info5 rfl (by decide) (by omega) v251 y250 l0 _ _ _ (fun _ => True) (fun _ => False) rfl rfl ?aO ?aR (fun _ _ h => h) (fun _ h => h.elim) ?aF ?aB ?aS ?aL ?_; (case aR => repeat (first | exact (Kd.C_below HR0.out HB.out) | (with_reducible refine Kd.C_alloc ?_ _) | (with_reducible refine Kd.C_drewN ?_ _) | (with_reducible refine Kd.C_drew ?_))); (case aB => exact (by repeat (first | (with_reducible first | exact HB.out | apply below_alloc | apply pw_below_drewN | apply below_drew1) | exact HB.out))); (case aF => exact (fun _ _ => trivial)); (case aO => exact (by (with_reducible repeat (first | apply Kd.R_alloc | apply Kd.R_drewN | apply Kd.R_drew)); exact HO252.out)); (case aS => exact (below_size (by repeat (first | (with_reducible first | exact HB.out | apply below_alloc | apply pw_below_drewN | apply below_drew1) | exact HB.out)))); (case aL => have := LMc6.out; omega); intro v254 w13 ho hb hg hat; rw [← Ny253.out] at ho; have n0_ := Aside0.mk (hb); have n1_ := Aside0.mk (ho); clear HB; clear HO252; have HB := n0_; have HO255 := n1_; clear n0_ n1_; clear ho hb hg hat; obtain ⟨Ao14, co14, eo14⟩ := Kd.R_slice HO255.out; subst eo14) | (go_at_call 16; (with_reducible refine (code_Get.calls k _ _ y253 t256 t257 t258 t259 t260 t261 t262 _ ?side1 ?side2 A7.out).mono ?_); (case side1 => repeat (first | exact (Kd.R_reads' HO255.out).2.2 | (with_reducible refine Kd.C_alloc ?_ _) | (with_reducible refine Kd.C_drewN ?_ _) | (with_reducible refine Kd.C_drew ?_))); (case side2 => exact (Kd.R_reads' HO255.out).2.1); rintro e w15 ⟨rfl, hb⟩; have n0_ := Aside0.mk (Kd.R_below (by (with_reducible repeat (first | apply Kd.R_alloc | apply Kd.R_drewN | apply Kd.R_drew)); exact HO255.out) hb); have n1_ := Aside0.mk (below_step (by repeat (first | (with_reducible first | exact HB.out | apply below_alloc | apply pw_below_drewN | apply below_drew1) | exact HB.out)) hb); clear HO255; clear HB; have HO255 := n0_; have HB := n1_; clear n0_ n1_; (try clear hb); (try clear hb2); (try clear hk); (try clear hi)) | ((with_reducible refine gate_dst (N := 3) rfl ?_); refine box_event ?hg (N := 3) ?hd (cs := #[.int .i64 0, .int .i64 0, .int .i64 0, .int .i64 0, .int .u64 0]) (t := 30) ?hr ?_; (case hd => rfl); (case hg => rfl); (case hr => first | (go_simp; done) | (go_simp; rfl)); intro gb263 hg w16 hbox hb; have n0_ := Aside0.mk (Kd.R_below (by (with_reducible repeat (first | apply Kd.R_alloc | apply Kd.R_drewN | apply Kd.R_drew)); exact HO255.out) hb); have n1_ := Aside0.mk (below_step (by repeat (first | (with_reducible first | exact HB.out | apply below_alloc | apply pw_below_drewN | apply below_drew1) | exact HB.out)) hb); have n2_ := Aside0.mk (hbox); have n3_ := Aside0.mk ((by rw [hg]; exact (below_size (by repeat (first | (with_reducible first | exact HB.out | apply below_alloc | apply pw_below_drewN | apply below_drew1) | exact HB.out))) : w.heap.size ≤ gb263)); have n4_ := Aside0.mk ((by rw [hg]; exact (below_size (by repeat (first | (with_reducible first | exact HB.out | apply below_alloc | apply pw_below_drewN | apply below_drew1) | exact HB.out))) : w.heap.size ≤ gb263)); clear HO255; clear HB; have HO255 := n0_; have HB := n1_; have BK263 := n2_; have GW263 := n3_; have GE263 := n4_; clear n0_ n1_ n2_ n3_ n4_; clear hb hbox hg; have hcz17_0 : w16.cell? ⟨gb263, 0, none⟩ = some (.int .i64 0) := (blk_cell BK263.out 0).trans rfl; have hcz17_1 : w16.cell? ⟨gb263, 1, none⟩ = some (.int .i64 0) := (blk_cell BK263.out 1).trans rfl; have hcz17_2 : w16.cell? ⟨gb263, 2, none⟩ = some (.int .i64 0) := (blk_cell BK263.out 2).trans rfl; have hcz17_3 : w16.cell? ⟨gb263, 3, none⟩ = some (.int .i64 0) := (blk_cell BK263.out 3).trans rfl; have hcz17_4 : w16.cell? ⟨gb263, 4, none⟩ = some (.int .u64 0) := (blk_cell BK263.out 4).trans rfl; have hfz17_0 := blk_frozen BK263.out 0; have hfz17_1 := blk_frozen BK263.out 1; have hfz17_2 := blk_frozen BK263.out 2; have hfz17_3 := blk_frozen BK263.out 3; have hfz17_4 := blk_frozen BK263.out 4) | (go_at_call 17; (with_reducible refine (backreachref02_Get.calls k _ _ l0 t264 t265 t266 t267 t268 t269 t270 _ ?side1 ?side2 A8.out).mono ?_); (case side1 => exact Kd.C_below HR0.out (by repeat (first | (with_reducible first | exact HB.out | apply below_alloc | apply pw_below_drewN | apply below_drew1 | refine below_set ?_ GE263.out) | exact HB.out))); (case side2 => exact HC0.out); rintro e w18 ⟨rfl, hb⟩; have n0_ := Aside0.mk (Kd.R_below (by (with_reducible repeat (first | apply Kd.R_alloc | apply Kd.R_drewN | apply Kd.R_drew)); exact (Kd.R_mono (Kd.R_far (p := ⟨gb263, 4, none⟩) (Kd.R_far (p := ⟨gb263, 3, none⟩) (Kd.R_far (p := ⟨gb263, 2, none⟩) (Kd.R_far (p := ⟨gb263, 1, none⟩) (Kd.R_far (p := ⟨gb263, 0, none⟩) (Kd.R_types HO255.out BK263.out (by decide)) (fun _ hk => hk.2) (.int .i64 t256)) (fun _ hk => hk.2) (.int .i64 t257)) (fun _ hk => hk.2) (.int .i64 t258)) (fun _ hk => hk.2) (.int .i64 t259)) (fun _ hk => hk.2) (.int .u64 t260)) (fun _ h_ => h_.1))) hb); have n1_ := Aside0.mk (blk_below (g := gb263) (o := .cells #[.int .i64 t256, .int .i64 t257, .int .i64 t258, .int .i64 t259, .int .u64 t260] 30 (0, 0)) (by (with_reducible repeat (first | refine blk_drewN ?_ _ | refine blk_drew ?_ | refine blk_alloc ?_ _)); refine blk_put (cs := #[.int .i64 t256, .int .i64 t257, .int .i64 t258, .int .i64 t259, .int .u64 0]) ?_ 4 _ rfl; (with_reducible repeat (first | refine blk_drewN ?_ _ | refine blk_drew ?_ | refine blk_alloc ?_ _)); refine blk_put (cs := #[.int .i64 t256, .int .i64 t257, .int .i64 t258, .int .i64 0, .int .u64 0]) ?_ 3 _ rfl; (with_reducible repeat (first | refine blk_drewN ?_ _ | refine blk_drew ?_ | refine blk_alloc ?_ _)); refine blk_put (cs := #[.int .i64 t256, .int .i64 t257, .int .i64 0, .int .i64 0, .int .u64 0]) ?_ 2 _ rfl; (with_reducible repeat (first | refine blk_drewN ?_ _ | refine blk_drew ?_ | refine blk_alloc ?_ _)); refine blk_put (cs := #[.int .i64 t256, .int .i64 0, .int .i64 0, .int .i64 0, .int .u64 0]) ?_ 1 _ rfl; (with_reducible repeat (first | refine blk_drewN ?_ _ | refine blk_drew ?_ | refine blk_alloc ?_ _)); refine blk_put (cs := #[.int .i64 0, .int .i64 0, .int .i64 0, .int .i64 0, .int .u64 0]) ?_ 0 _ rfl; (with_reducible repeat (first | refine blk_drewN ?_ _ | refine blk_drew ?_ | refine blk_alloc ?_ _)); exact BK263.out) hb); have n2_ := Aside0.mk (below_step (by repeat (first | (with_reducible first | exact HB.out | apply below_alloc | apply pw_below_drewN | apply below_drew1 | refine below_set ?_ GE263.out) | exact HB.out)) hb); clear HO255; clear BK263; clear HB; have HO255 := n0_; have BK263 := n1_; have HB := n2_; clear n0_ n1_ n2_; (try clear hb); (try clear hb2); (try clear hk); (try clear hi)) | ((with_reducible refine gate_dst (N := 6) rfl ?_); refine box_event ?hg (N := 6) ?hd (cs := #[.int .i64 0, .int .i64 0, .int .i64 0, .int .i64 0, .int .u64 0]) (t := 30) ?hr ?_; (case hd => rfl); (case hg => rfl); (case hr => first | (go_simp; done) | (go_simp; rfl)); intro gb271 hg w19 hbox hb; have n0_ := Aside0.mk (Kd.R_below (by (with_reducible repeat (first | apply Kd.R_alloc | apply Kd.R_drewN | apply Kd.R_drew)); exact HO255.out) hb); have n1_ := Aside0.mk (blk_below (g := gb263) (o := .cells #[.int .i64 t256, .int .i64 t257, .int .i64 t258, .int .i64 t259, .int .u64 t260] 30 (0, 0)) (by (with_reducible repeat (first | refine blk_drewN ?_ _ | refine blk_drew ?_ | refine blk_alloc ?_ _)); exact BK263.out) hb); have n2_ := Aside0.mk (below_step (by repeat (first | (with_reducible first | exact HB.out | apply below_alloc | apply pw_below_drewN | apply below_drew1 | refine below_set ?_ GE263.out) | exact HB.out)) hb); have n3_ := Aside0.mk (hbox); have n4_ := Aside0.mk ((by rw [hg]; exact (below_size (by repeat (first | (with_reducible first | exact HB.out | apply below_alloc | apply pw_below_drewN | apply below_drew1 | refine below_set ?_ GE263.out) | exact HB.out))) : w.heap.size ≤ gb271)); have n5_ := Aside0.mk ((by rw [hg]; exact (below_size (by repeat (first | (with_reducible first | exact HB.out | apply below_alloc | apply pw_below_drewN | apply below_drew1 | refine below_set ?_ GE263.out) | exact HB.out))) : w.heap.size ≤ gb271)); have n6_ := Aside0.mk ((by rw [hg]; exact Nat.ne_of_lt (blk_lt (g := gb263) (o := .cells #[.int .i64 t256, .int .i64 t257, .int .i64 t258, .int .i64 t259, .int .u64 t260] 30 (0, 0)) (by (with_reducible repeat (first | refine blk_drewN ?_ _ | refine blk_drew ?_ | refine blk_alloc ?_ _)); exact BK263.out)) : gb263 ≠ gb271)); have n7_ := Aside0.mk ((by rw [hg]; exact Nat.ne_of_gt (blk_lt (g := gb263) (o := .cells #[.int .i64 t256, .int .i64 t257, .int .i64 t258, .int .i64 t259, .int .u64 t260] 30 (0, 0)) (by (with_reducible repeat (first | refine blk_drewN ?_ _ | refine blk_drew ?_ | refine blk_alloc ?_ _)); exact BK263.out)) : gb271 ≠ gb263)); clear HO255; clear BK263; clear HB; have HO255 := n0_; have BK263 := n1_; have HB := n2_; have BK271 := n3_; have GW271 := n4_; have GE271 := n5_; have NB263_271 := n6_; have NB271_263 := n7_; clear n0_ n1_ n2_ n3_ n4_ n5_ n6_ n7_; clear hb hbox hg; have hnb20 := NB271_263.out; have hnc20 := NB263_271.out; have hcz21_0 : w19.cell? ⟨gb271, 0, none⟩ = some (.int .i64 0) := (blk_cell BK271.out 0).trans rfl; have hcz21_1 : w19.cell? ⟨gb271, 1, none⟩ = some (.int .i64 0) := (blk_cell BK271.out 1).trans rfl; have hcz21_2 : w19.cell? ⟨gb271, 2, none⟩ = some (.int .i64 0) := (blk_cell BK271.out 2).trans rfl; have hcz21_3 : w19.cell? ⟨gb271, 3, none⟩ = some (.int .i64 0) := (blk_cell BK271.out 3).trans rfl; have hcz21_4 : w19.cell? ⟨gb271, 4, none⟩ = some (.int .u64 0) := (blk_cell BK271.out 4).trans rfl; have hfz21_0 := blk_frozen BK271.out 0; have hfz21_1 := blk_frozen BK271.out 1; have hfz21_2 := blk_frozen BK271.out 2; have hfz21_3 := blk_frozen BK271.out 3; have hfz21_4 := blk_frozen BK271.out 4)))
        (try simp only [Act.put, List.setIfInBounds_toArray, List.set_cons_zero, List.set_cons_succ])
        go_cut [42] (fun v42 wc => ∃ (kq : Nat) (x42_8 : Bool), v42 = .bool x42_8 ∧ Aside0 (backreachlaw02_CodeGets.j0 kq l0 t261 x42_8 t256 t257 t258 t259 t260 = some r) ∧ Aside0 (kq ≤ k) ∧ Aside0 (wc.heap[gb263]? = some (.cells #[.int .i64 t256, .int .i64 t257, .int .i64 t258, .int .i64 t259, .int .u64 t260] 30 (0, 0))) ∧ Aside0 (wc.heap[gb271]? = some (.cells #[.int .i64 t264, .int .i64 t265, .int .i64 t266, .int .i64 t267, .int .u64 t268] 30 (0, 0))) ∧ Aside0 (Below w.heap.size w wc))
        case first =>
          have H := HC9.out
          clear HC9
          by_cases c22 : (!(t256 == t264) || (!(t257 == t265) || (!(t258 == t266) || (!(t259 == t267) || (!(t260 == t268)))))) = true
          · rw [if_pos c22] at H
            have c22b0 : (!(t256 == t264) || (!(t257 == t265) || (!(t258 == t266) || (!(t259 == t267) || (!(t260 == t268)))))) = true := c22
            clear c22
            (first | rw [c22b0] | (simp only [i64_w, i32_w]; rw [c22b0]) | skip)
            have H' := Aside0.mk H
            clear H
            have hnb23 := NB263_271.out
            have hnc23 := NB271_263.out
            have hcz24_0 : w19.cell? ⟨gb263, 0, none⟩ = some (.int .i64 t256) := (blk_cell BK263.out 0).trans rfl
            have hcz24_1 : w19.cell? ⟨gb263, 1, none⟩ = some (.int .i64 t257) := (blk_cell BK263.out 1).trans rfl
            have hcz24_2 : w19.cell? ⟨gb263, 2, none⟩ = some (.int .i64 t258) := (blk_cell BK263.out 2).trans rfl
            have hcz24_3 : w19.cell? ⟨gb263, 3, none⟩ = some (.int .i64 t259) := (blk_cell BK263.out 3).trans rfl
            have hcz24_4 : w19.cell? ⟨gb263, 4, none⟩ = some (.int .u64 t260) := (blk_cell BK263.out 4).trans rfl
            have hfz24_0 := blk_frozen BK263.out 0
            have hfz24_1 := blk_frozen BK263.out 1
            have hfz24_2 := blk_frozen BK263.out 2
            have hfz24_3 := blk_frozen BK263.out 3
            have hfz24_4 := blk_frozen BK263.out 4
            have hcz25_0 : w19.cell? ⟨gb271, 0, none⟩ = some (.int .i64 0) := (blk_cell BK271.out 0).trans rfl
            have hcz25_1 : w19.cell? ⟨gb271, 1, none⟩ = some (.int .i64 0) := (blk_cell BK271.out 1).trans rfl
            have hcz25_2 : w19.cell? ⟨gb271, 2, none⟩ = some (.int .i64 0) := (blk_cell BK271.out 2).trans rfl
            have hcz25_3 : w19.cell? ⟨gb271, 3, none⟩ = some (.int .i64 0) := (blk_cell BK271.out 3).trans rfl
            have hcz25_4 : w19.cell? ⟨gb271, 4, none⟩ = some (.int .u64 0) := (blk_cell BK271.out 4).trans rfl
            have hfz25_0 := blk_frozen BK271.out 0
            have hfz25_1 := blk_frozen BK271.out 1
            have hfz25_2 := blk_frozen BK271.out 2
            have hfz25_3 := blk_frozen BK271.out 3
            have hfz25_4 := blk_frozen BK271.out 4
            go_wp2
            repeat (go_quiet (fail); try go_wp2)
            go_meet
            case rel => exact ⟨_, (true), (by first | rfl | (simp; done) | (simp [*]; done)), H', ⟨by first | omega | exact Nat.le_refl _⟩, ⟨by (with_reducible repeat (first | refine blk_drewN ?_ _ | refine blk_drew ?_ | refine blk_alloc ?_ _)); refine blk_far ?_ NB263_271.out _; (with_reducible repeat (first | refine blk_drewN ?_ _ | refine blk_drew ?_ | refine blk_alloc ?_ _)); refine blk_far ?_ NB263_271.out _; (with_reducible repeat (first | refine blk_drewN ?_ _ | refine blk_drew ?_ | refine blk_alloc ?_ _)); refine blk_far ?_ NB263_271.out _; (with_reducible repeat (first | refine blk_drewN ?_ _ | refine blk_drew ?_ | refine blk_alloc ?_ _)); refine blk_far ?_ NB263_271.out _; (with_reducible repeat (first | refine blk_drewN ?_ _ | refine blk_drew ?_ | refine blk_alloc ?_ _)); refine blk_far ?_ NB263_271.out _; (with_reducible repeat (first | refine blk_drewN ?_ _ | refine blk_drew ?_ | refine blk_alloc ?_ _)); exact BK263.out⟩, ⟨by (with_reducible repeat (first | refine blk_drewN ?_ _ | refine blk_drew ?_ | refine blk_alloc ?_ _)); refine blk_put (cs := #[.int .i64 t264, .int .i64 t265, .int .i64 t266, .int .i64 t267, .int .u64 0]) ?_ 4 _ rfl; (with_reducible repeat (first | refine blk_drewN ?_ _ | refine blk_drew ?_ | refine blk_alloc ?_ _)); refine blk_put (cs := #[.int .i64 t264, .int .i64 t265, .int .i64 t266, .int .i64 0, .int .u64 0]) ?_ 3 _ rfl; (with_reducible repeat (first | refine blk_drewN ?_ _ | refine blk_drew ?_ | refine blk_alloc ?_ _)); refine blk_put (cs := #[.int .i64 t264, .int .i64 t265, .int .i64 0, .int .i64 0, .int .u64 0]) ?_ 2 _ rfl; (with_reducible repeat (first | refine blk_drewN ?_ _ | refine blk_drew ?_ | refine blk_alloc ?_ _)); refine blk_put (cs := #[.int .i64 t264, .int .i64 0, .int .i64 0, .int .i64 0, .int .u64 0]) ?_ 1 _ rfl; (with_reducible repeat (first | refine blk_drewN ?_ _ | refine blk_drew ?_ | refine blk_alloc ?_ _)); refine blk_put (cs := #[.int .i64 0, .int .i64 0, .int .i64 0, .int .i64 0, .int .u64 0]) ?_ 0 _ rfl; (with_reducible repeat (first | refine blk_drewN ?_ _ | refine blk_drew ?_ | refine blk_alloc ?_ _)); exact BK271.out⟩, ⟨by repeat (first | (with_reducible first | exact HB.out | apply below_alloc | apply pw_below_drewN | apply below_drew1 | refine below_set ?_ GE263.out | refine below_set ?_ GE271.out) | exact HB.out)⟩⟩
          · rw [if_neg c22] at H
            have c22b0 : (!(t256 == t264) || (!(t257 == t265) || (!(t258 == t266) || (!(t259 == t267) || (!(t260 == t268)))))) = false := by simpa using c22
            clear c22
            (first | rw [c22b0] | (simp only [i64_w, i32_w]; rw [c22b0]) | skip)
            by_cases c26 : t261 = t269
            · rw [if_pos c26] at H
              have c26b0 : (t261 == t269) = true := beq_iff_eq.mpr c26
              have c26b1 : (t261 != t269) = false := bne_eq_false_iff_eq.mpr c26
              clear c26
              have H' := Aside0.mk H
              clear H
              have hnb27 := NB263_271.out
              have hnc27 := NB271_263.out
              have hcz28_0 : w19.cell? ⟨gb263, 0, none⟩ = some (.int .i64 t256) := (blk_cell BK263.out 0).trans rfl
              have hcz28_1 : w19.cell? ⟨gb263, 1, none⟩ = some (.int .i64 t257) := (blk_cell BK263.out 1).trans rfl
              have hcz28_2 : w19.cell? ⟨gb263, 2, none⟩ = some (.int .i64 t258) := (blk_cell BK263.out 2).trans rfl
              have hcz28_3 : w19.cell? ⟨gb263, 3, none⟩ = some (.int .i64 t259) := (blk_cell BK263.out 3).trans rfl
              have hcz28_4 : w19.cell? ⟨gb263, 4, none⟩ = some (.int .u64 t260) := (blk_cell BK263.out 4).trans rfl
              have hfz28_0 := blk_frozen BK263.out 0
              have hfz28_1 := blk_frozen BK263.out 1
              have hfz28_2 := blk_frozen BK263.out 2
              have hfz28_3 := blk_frozen BK263.out 3
              have hfz28_4 := blk_frozen BK263.out 4
              have hcz29_0 : w19.cell? ⟨gb271, 0, none⟩ = some (.int .i64 0) := (blk_cell BK271.out 0).trans rfl
              have hcz29_1 : w19.cell? ⟨gb271, 1, none⟩ = some (.int .i64 0) := (blk_cell BK271.out 1).trans rfl
              have hcz29_2 : w19.cell? ⟨gb271, 2, none⟩ = some (.int .i64 0) := (blk_cell BK271.out 2).trans rfl
              have hcz29_3 : w19.cell? ⟨gb271, 3, none⟩ = some (.int .i64 0) := (blk_cell BK271.out 3).trans rfl
              have hcz29_4 : w19.cell? ⟨gb271, 4, none⟩ = some (.int .u64 0) := (blk_cell BK271.out 4).trans rfl
              have hfz29_0 := blk_frozen BK271.out 0
              have hfz29_1 := blk_frozen BK271.out 1
              have hfz29_2 := blk_frozen BK271.out 2
              have hfz29_3 := blk_frozen BK271.out 3
              have hfz29_4 := blk_frozen BK271.out 4
              go_wp2
              repeat (go_quiet (fail); try go_wp2)
              go_meet
              case rel => exact ⟨_, ((t262 != t270)), (by first | rfl | (simp; done) | (simp [*]; done)), H', ⟨by first | omega | exact Nat.le_refl _⟩, ⟨by (with_reducible repeat (first | refine blk_drewN ?_ _ | refine blk_drew ?_ | refine blk_alloc ?_ _)); refine blk_far ?_ NB263_271.out _; (with_reducible repeat (first | refine blk_drewN ?_ _ | refine blk_drew ?_ | refine blk_alloc ?_ _)); refine blk_far ?_ NB263_271.out _; (with_reducible repeat (first | refine blk_drewN ?_ _ | refine blk_drew ?_ | refine blk_alloc ?_ _)); refine blk_far ?_ NB263_271.out _; (with_reducible repeat (first | refine blk_drewN ?_ _ | refine blk_drew ?_ | refine blk_alloc ?_ _)); refine blk_far ?_ NB263_271.out _; (with_reducible repeat (first | refine blk_drewN ?_ _ | refine blk_drew ?_ | refine blk_alloc ?_ _)); refine blk_far ?_ NB263_271.out _; (with_reducible repeat (first | refine blk_drewN ?_ _ | refine blk_drew ?_ | refine blk_alloc ?_ _)); exact BK263.out⟩, ⟨by (with_reducible repeat (first | refine blk_drewN ?_ _ | refine blk_drew ?_ | refine blk_alloc ?_ _)); refine blk_put (cs := #[.int .i64 t264, .int .i64 t265, .int .i64 t266, .int .i64 t267, .int .u64 0]) ?_ 4 _ rfl; (with_reducible repeat (first | refine blk_drewN ?_ _ | refine blk_drew ?_ | refine blk_alloc ?_ _)); refine blk_put (cs := #[.int .i64 t264, .int .i64 t265, .int .i64 t266, .int .i64 0, .int .u64 0]) ?_ 3 _ rfl; (with_reducible repeat (first | refine blk_drewN ?_ _ | refine blk_drew ?_ | refine blk_alloc ?_ _)); refine blk_put (cs := #[.int .i64 t264, .int .i64 t265, .int .i64 0, .int .i64 0, .int .u64 0]) ?_ 2 _ rfl; (with_reducible repeat (first | refine blk_drewN ?_ _ | refine blk_drew ?_ | refine blk_alloc ?_ _)); refine blk_put (cs := #[.int .i64 t264, .int .i64 0, .int .i64 0, .int .i64 0, .int .u64 0]) ?_ 1 _ rfl; (with_reducible repeat (first | refine blk_drewN ?_ _ | refine blk_drew ?_ | refine blk_alloc ?_ _)); refine blk_put (cs := #[.int .i64 0, .int .i64 0, .int .i64 0, .int .i64 0, .int .u64 0]) ?_ 0 _ rfl; (with_reducible repeat (first | refine blk_drewN ?_ _ | refine blk_drew ?_ | refine blk_alloc ?_ _)); exact BK271.out⟩, ⟨by repeat (first | (with_reducible first | exact HB.out | apply below_alloc | apply pw_below_drewN | apply below_drew1 | refine below_set ?_ GE263.out | refine below_set ?_ GE271.out) | exact HB.out)⟩⟩
            · rw [if_neg c26] at H
              have c26b0 : (t261 == t269) = false := beq_eq_false_iff_ne.mpr c26
              have c26b1 : (t261 != t269) = true := bne_iff_ne.mpr c26
              have H' := Aside0.mk H
              clear H
              have hnb30 := NB263_271.out
              have hnc30 := NB271_263.out
              have hcz31_0 : w19.cell? ⟨gb263, 0, none⟩ = some (.int .i64 t256) := (blk_cell BK263.out 0).trans rfl
              have hcz31_1 : w19.cell? ⟨gb263, 1, none⟩ = some (.int .i64 t257) := (blk_cell BK263.out 1).trans rfl
              have hcz31_2 : w19.cell? ⟨gb263, 2, none⟩ = some (.int .i64 t258) := (blk_cell BK263.out 2).trans rfl
              have hcz31_3 : w19.cell? ⟨gb263, 3, none⟩ = some (.int .i64 t259) := (blk_cell BK263.out 3).trans rfl
              have hcz31_4 : w19.cell? ⟨gb263, 4, none⟩ = some (.int .u64 t260) := (blk_cell BK263.out 4).trans rfl
              have hfz31_0 := blk_frozen BK263.out 0
              have hfz31_1 := blk_frozen BK263.out 1
              have hfz31_2 := blk_frozen BK263.out 2
              have hfz31_3 := blk_frozen BK263.out 3
              have hfz31_4 := blk_frozen BK263.out 4
              have hcz32_0 : w19.cell? ⟨gb271, 0, none⟩ = some (.int .i64 0) := (blk_cell BK271.out 0).trans rfl
              have hcz32_1 : w19.cell? ⟨gb271, 1, none⟩ = some (.int .i64 0) := (blk_cell BK271.out 1).trans rfl
              have hcz32_2 : w19.cell? ⟨gb271, 2, none⟩ = some (.int .i64 0) := (blk_cell BK271.out 2).trans rfl
              have hcz32_3 : w19.cell? ⟨gb271, 3, none⟩ = some (.int .i64 0) := (blk_cell BK271.out 3).trans rfl
              have hcz32_4 : w19.cell? ⟨gb271, 4, none⟩ = some (.int .u64 0) := (blk_cell BK271.out 4).trans rfl
              have hfz32_0 := blk_frozen BK271.out 0
              have hfz32_1 := blk_frozen BK271.out 1
              have hfz32_2 := blk_frozen BK271.out 2
              have hfz32_3 := blk_frozen BK271.out 3
              have hfz32_4 := blk_frozen BK271.out 4
              go_wp2
              repeat (go_quiet (fail); try go_wp2)
              go_meet
              case rel => exact ⟨_, (true), (by first | rfl | (simp; done) | (simp [*]; done)), H', ⟨by first | omega | exact Nat.le_refl _⟩, ⟨by (with_reducible repeat (first | refine blk_drewN ?_ _ | refine blk_drew ?_ | refine blk_alloc ?_ _)); refine blk_far ?_ NB263_271.out _; (with_reducible repeat (first | refine blk_drewN ?_ _ | refine blk_drew ?_ | refine blk_alloc ?_ _)); refine blk_far ?_ NB263_271.out _; (with_reducible repeat (first | refine blk_drewN ?_ _ | refine blk_drew ?_ | refine blk_alloc ?_ _)); refine blk_far ?_ NB263_271.out _; (with_reducible repeat (first | refine blk_drewN ?_ _ | refine blk_drew ?_ | refine blk_alloc ?_ _)); refine blk_far ?_ NB263_271.out _; (with_reducible repeat (first | refine blk_drewN ?_ _ | refine blk_drew ?_ | refine blk_alloc ?_ _)); refine blk_far ?_ NB263_271.out _; (with_reducible repeat (first | refine blk_drewN ?_ _ | refine blk_drew ?_ | refine blk_alloc ?_ _)); exact BK263.out⟩, ⟨by (with_reducible repeat (first | refine blk_drewN ?_ _ | refine blk_drew ?_ | refine blk_alloc ?_ _)); refine blk_put (cs := #[.int .i64 t264, .int .i64 t265, .int .i64 t266, .int .i64 t267, .int .u64 0]) ?_ 4 _ rfl; (with_reducible repeat (first | refine blk_drewN ?_ _ | refine blk_drew ?_ | refine blk_alloc ?_ _)); refine blk_put (cs := #[.int .i64 t264, .int .i64 t265, .int .i64 t266, .int .i64 0, .int .u64 0]) ?_ 3 _ rfl; (with_reducible repeat (first | refine blk_drewN ?_ _ | refine blk_drew ?_ | refine blk_alloc ?_ _)); refine blk_put (cs := #[.int .i64 t264, .int .i64 t265, .int .i64 0, .int .i64 0, .int .u64 0]) ?_ 2 _ rfl; (with_reducible repeat (first | refine blk_drewN ?_ _ | refine blk_drew ?_ | refine blk_alloc ?_ _)); refine blk_put (cs := #[.int .i64 t264, .int .i64 0, .int .i64 0, .int .i64 0, .int .u64 0]) ?_ 1 _ rfl; (with_reducible repeat (first | refine blk_drewN ?_ _ | refine blk_drew ?_ | refine blk_alloc ?_ _)); refine blk_put (cs := #[.int .i64 0, .int .i64 0, .int .i64 0, .int .i64 0, .int .u64 0]) ?_ 0 _ rfl; (with_reducible repeat (first | refine blk_drewN ?_ _ | refine blk_drew ?_ | refine blk_alloc ?_ _)); exact BK271.out⟩, ⟨by repeat (first | (with_reducible first | exact HB.out | apply below_alloc | apply pw_below_drewN | apply below_drew1 | refine below_set ?_ GE263.out | refine below_set ?_ GE271.out) | exact HB.out)⟩⟩
        case rest =>
          clear HC9
          try clear c2
          try clear p2
          try clear c3
          try clear c4
          try clear c4b0
          try clear c4b1
          try clear c5
          try clear c6
          try clear c20
          try clear c22
          try clear c22b0
          try clear c23
          try clear c26
          try clear c26b0
          try clear c26b1
          try clear c27
          try clear c30
          try clear hcz17_0
          try clear hcz17_1
          try clear hcz17_2
          try clear hcz17_3
          try clear hcz17_4
          try clear hcz21_0
          try clear hcz21_1
          try clear hcz21_2
          try clear hcz21_3
          try clear hcz21_4
          try clear hcz24_0
          try clear hcz24_1
          try clear hcz24_2
          try clear hcz24_3
          try clear hcz24_4
          try clear hcz25_0
          try clear hcz25_1
          try clear hcz25_2
          try clear hcz25_3
          try clear hcz25_4
          try clear hcz28_0
          try clear hcz28_1
          try clear hcz28_2
          try clear hcz28_3
          try clear hcz28_4
          try clear hcz29_0
          try clear hcz29_1
          try clear hcz29_2
          try clear hcz29_3
          try clear hcz29_4
          try clear hcz31_0
          try clear hcz31_1
          try clear hcz31_2
          try clear hcz31_3
          try clear hcz31_4
          try clear hcz32_0
          try clear hcz32_1
          try clear hcz32_2
          try clear hcz32_3
          try clear hcz32_4
          try clear hfz17_0
          try clear hfz17_1
          try clear hfz17_2
          try clear hfz17_3
          try clear hfz17_4
          try clear hfz21_0
          try clear hfz21_1
          try clear hfz21_2
          try clear hfz21_3
          try clear hfz21_4
          try clear hfz24_0
          try clear hfz24_1
          try clear hfz24_2
          try clear hfz24_3
          try clear hfz24_4
          try clear hfz25_0
          try clear hfz25_1
          try clear hfz25_2
          try clear hfz25_3
          try clear hfz25_4
          try clear hfz28_0
          try clear hfz28_1
          try clear hfz28_2
          try clear hfz28_3
          try clear hfz28_4
          try clear hfz29_0
          try clear hfz29_1
          try clear hfz29_2
          try clear hfz29_3
          try clear hfz29_4
          try clear hfz31_0
          try clear hfz31_1
          try clear hfz31_2
          try clear hfz31_3
          try clear hfz31_4
          try clear hfz32_0
          try clear hfz32_1
          try clear hfz32_2
          try clear hfz32_3
          try clear hfz32_4
          obtain ⟨kq, x42_8, rfl, HA, HJ8, BK263, BK271, HB⟩ := hcut
          cases kq with
          | zero => exact absurd HA.out (by simp [backreachlaw02_CodeGets.j0])
          | succ kj8 =>
            have H := HA.out
            clear HA
            simp only [backreachlaw02_CodeGets.j0] at H
            by_cases c33 : x42_8 = true
            · subst c33
              have H1 : (some false) = some r := by rw [if_pos rfl] at H; exact H
              clear H
              have H := H1
              clear H1
              obtain rfl := Option.some.inj H
              go_wp2
              repeat (go_quiet (fail); try go_wp2)
              go_ret
              exact ⟨by first | rfl | (simp [errW_none, errW_some] <;> rfl) | (simp [*, errW_none, errW_some] <;> rfl), by repeat (first | (with_reducible first | exact HB.out | apply below_alloc | apply pw_below_drewN | apply below_drew1 | refine below_set ?_ GE263.out | refine below_set ?_ GE271.out) | exact HB.out)⟩
            · replace c33 := Bool.eq_false_iff.mpr c33
              subst c33
              have H1 : (if t261 = 0 then ((code_Put.f kj8 t256 t257 t258 t259 t260).bind fun bt272 => (if bt272.2 = 0 then (if 12 ≤ (l0.length : Int) then (some ((strOfNums bt272.1).toList == (strOfNums (l0.take 12)).toList)) else (none)) else (some false))) else (some true)) = some r := by rw [if_neg (show ¬ (false = true) by decide)] at H; exact H
              clear H
              have H := H1
              clear H1
              by_cases c34 : t261 = 0
              · rw [if_pos c34] at H
                have c34b0 : (t261 == 0) = true := beq_iff_eq.mpr c34
                have c34b1 : (t261 != 0) = false := bne_eq_false_iff_eq.mpr c34
                clear c34
                replace H := Option.bind_eq_some_iff.mp H
                obtain ⟨⟨t272, t275⟩, A350, H⟩ := H
                replace H : (if t275 = 0 then (if 12 ≤ (l0.length : Int) then (some ((strOfNums t272).toList == (strOfNums (l0.take 12)).toList)) else (none)) else (some false)) = some r := H
                have A35 := Aside0.mk A350
                clear A350
                by_cases c36 : t275 = 0
                · rw [if_pos c36] at H
                  have c36b0 : (t275 == 0) = true := beq_iff_eq.mpr c36
                  have c36b1 : (t275 != 0) = false := bne_eq_false_iff_eq.mpr c36
                  clear c36
                  by_cases c37 : 12 ≤ (l0.length : Int)
                  · rw [if_pos c37] at H
                    have c37b0 := eq_true c37
                    have c37b1 : decide (12 ≤ (l0.length : Int)) = true := decide_eq_true c37
                    clear c37
                    obtain ⟨y276, hy276⟩ : ∃ y_ : List Int, y_ = (l0.take 12) := ⟨_, rfl⟩
                    replace H : (some ((strOfNums t272).toList == (strOfNums y276).toList)) = some r := by first | (rw [hy276]; with_reducible exact H) | (have H2_ := (Option.bind_some _ _).symm.trans H; rw [hy276]; with_reducible exact H2_) | (have H2_ := (Option.bind_some _ _).symm.trans H; with_reducible exact H2_) | with_reducible exact H | (rw [hy276]; exact H) | exact H
                    have Ny276 := Aside0.mk hy276
                    clear hy276
                    obtain rfl := Option.some.inj H
                    have hnb38 := NB263_271.out
                    have hnc38 := NB271_263.out
                    have hcz39_0 : wc.cell? ⟨gb263, 0, none⟩ = some (.int .i64 t256) := (blk_cell BK263.out 0).trans rfl
                    have hcz39_1 : wc.cell? ⟨gb263, 1, none⟩ = some (.int .i64 t257) := (blk_cell BK263.out 1).trans rfl
                    have hcz39_2 : wc.cell? ⟨gb263, 2, none⟩ = some (.int .i64 t258) := (blk_cell BK263.out 2).trans rfl
                    have hcz39_3 : wc.cell? ⟨gb263, 3, none⟩ = some (.int .i64 t259) := (blk_cell BK263.out 3).trans rfl
                    have hcz39_4 : wc.cell? ⟨gb263, 4, none⟩ = some (.int .u64 t260) := (blk_cell BK263.out 4).trans rfl
                    have hfz39_0 := blk_frozen BK263.out 0
                    have hfz39_1 := blk_frozen BK263.out 1
                    have hfz39_2 := blk_frozen BK263.out 2
                    have hfz39_3 := blk_frozen BK263.out 3
                    have hfz39_4 := blk_frozen BK263.out 4
                    go_wp2_with (first | (go_at_call 14; (with_reducible refine (code_Put.calls kj8 t256 t257 t258 t259 t260 t272 t275 _ A35.out).mono ?_); rintro e w40 ⟨v273, rfl, ho0, hb⟩; have n0_ := Aside0.mk (Kd.R_lower ho0 (below_size (by repeat (first | (with_reducible first | exact HB.out | apply below_alloc | apply pw_below_drewN | apply below_drew1 | refine below_set ?_ GE263.out | refine below_set ?_ GE271.out) | exact HB.out)))); have n1_ := Aside0.mk (blk_below (g := gb263) (o := .cells #[.int .i64 t256, .int .i64 t257, .int .i64 t258, .int .i64 t259, .int .u64 t260] 30 (0, 0)) (by (with_reducible repeat (first | refine blk_drewN ?_ _ | refine blk_drew ?_ | refine blk_alloc ?_ _)); exact BK263.out) hb); have n2_ := Aside0.mk (blk_below (g := gb271) (o := .cells #[.int .i64 t264, .int .i64 t265, .int .i64 t266, .int .i64 t267, .int .u64 t268] 30 (0, 0)) (by (with_reducible repeat (first | refine blk_drewN ?_ _ | refine blk_drew ?_ | refine blk_alloc ?_ _)); exact BK271.out) hb); have n3_ := Aside0.mk (below_step (by repeat (first | (with_reducible first | exact HB.out | apply below_alloc | apply pw_below_drewN | apply below_drew1 | refine below_set ?_ GE263.out | refine below_set ?_ GE271.out) | exact HB.out)) hb); clear BK263; clear BK271; clear HB; have HO274 := n0_; have BK263 := n1_; have BK271 := n2_; have HB := n3_; clear n0_ n1_ n2_ n3_; (try clear hb); (try clear hb2); (try clear hk); (try clear hi); (try clear ho0); have hcv41 := own_string (P := Try.prog) Try.underlying31 Try.underlying5 Try.underlying9 (Kd.own_of_R HO274.out); have hcv42 := fun (n_ : Nat) => own_string (P := Try.prog) Try.underlying31 Try.underlying5 Try.underlying9 (Kd.own_of_R (Kd.R_drewN HO274.out n_)); have q43 : (12 : Int) ≤ ((l0.length : Int) : Int) := of_decide_eq_true (by first | (with_reducible assumption) | assumption); obtain ⟨i043, hi043, _, hsz43, _⟩ := info_parts info5; have hroom43 : l0.length ≤ c0 := HC0.out; have hC43 : Kd.C (Kd.int .u8) _ A0 l0.length l0 := HR0.out; have hcut43 := cut_to (P := Try.prog) 31 5 .i64 Try.underlying31 hi043 A0 l0.length c0 12 (by omega) q43 hroom43; have hr43 := Kd.C_take (m := 12) hC43 (by omega); have hy43 : y276.length = (12 : Int).toNat := (by rw [Ny276.out, List.length_take]; omega); rw [← Ny276.out] at hr43; rw [← hy43] at hcut43; have HR279 := Aside0.mk hr43; have HC279 := Aside0.mk (show y276.length ≤ c0 from by omega); clear hr43 hC43 hroom43 hi043 hsz43; have KY43 := Aside0.mk hy43; clear hy43; replace q43 := eq_true q43; have hcv44 := Kd.C_string (P := Try.prog) (A := A0) (c := c0) Try.underlying31 Try.underlying5 Try.underlying9 (Kd.C_below HR279.out HB.out); have hcv45 := fun (n_ : Nat) => Kd.C_string (P := Try.prog) (A := A0) (c := c0) Try.underlying31 Try.underlying5 Try.underlying9 (Kd.C_drewN (Kd.C_below HR279.out HB.out) n_)))
                    repeat (go_quiet (fail); try go_wp2_with (first | (go_at_call 14; (with_reducible refine (code_Put.calls kj8 t256 t257 t258 t259 t260 t272 t275 _ A35.out).mono ?_); rintro e w40 ⟨v273, rfl, ho0, hb⟩; have n0_ := Aside0.mk (Kd.R_lower ho0 (below_size (by repeat (first | (with_reducible first | exact HB.out | apply below_alloc | apply pw_below_drewN | apply below_drew1 | refine below_set ?_ GE263.out | refine below_set ?_ GE271.out) | exact HB.out)))); have n1_ := Aside0.mk (blk_below (g := gb263) (o := .cells #[.int .i64 t256, .int .i64 t257, .int .i64 t258, .int .i64 t259, .int .u64 t260] 30 (0, 0)) (by (with_reducible repeat (first | refine blk_drewN ?_ _ | refine blk_drew ?_ | refine blk_alloc ?_ _)); exact BK263.out) hb); have n2_ := Aside0.mk (blk_below (g := gb271) (o := .cells #[.int .i64 t264, .int .i64 t265, .int .i64 t266, .int .i64 t267, .int .u64 t268] 30 (0, 0)) (by (with_reducible repeat (first | refine blk_drewN ?_ _ | refine blk_drew ?_ | refine blk_alloc ?_ _)); exact BK271.out) hb); have n3_ := Aside0.mk (below_step (by repeat (first | (with_reducible first | exact HB.out | apply below_alloc | apply pw_below_drewN | apply below_drew1 | refine below_set ?_ GE263.out | refine below_set ?_ GE271.out) | exact HB.out)) hb); clear BK263; clear BK271; clear HB; have HO274 := n0_; have BK263 := n1_; have BK271 := n2_; have HB := n3_; clear n0_ n1_ n2_ n3_; (try clear hb); (try clear hb2); (try clear hk); (try clear hi); (try clear ho0); have hcv41 := own_string (P := Try.prog) Try.underlying31 Try.underlying5 Try.underlying9 (Kd.own_of_R HO274.out); have hcv42 := fun (n_ : Nat) => own_string (P := Try.prog) Try.underlying31 Try.underlying5 Try.underlying9 (Kd.own_of_R (Kd.R_drewN HO274.out n_)); have q43 : (12 : Int) ≤ ((l0.length : Int) : Int) := of_decide_eq_true (by first | (with_reducible assumption) | assumption); obtain ⟨i043, hi043, _, hsz43, _⟩ := info_parts info5; have hroom43 : l0.length ≤ c0 := HC0.out; have hC43 : Kd.C (Kd.int .u8) _ A0 l0.length l0 := HR0.out; have hcut43 := cut_to (P := Try.prog) 31 5 .i64 Try.underlying31 hi043 A0 l0.length c0 12 (by omega) q43 hroom43; have hr43 := Kd.C_take (m := 12) hC43 (by omega); have hy43 : y276.length = (12 : Int).toNat := (by rw [Ny276.out, List.length_take]; omega); rw [← Ny276.out] at hr43; rw [← hy43] at hcut43; have HR279 := Aside0.mk hr43; have HC279 := Aside0.mk (show y276.length ≤ c0 from by omega); clear hr43 hC43 hroom43 hi043 hsz43; have KY43 := Aside0.mk hy43; clear hy43; replace q43 := eq_true q43; have hcv44 := Kd.C_string (P := Try.prog) (A := A0) (c := c0) Try.underlying31 Try.underlying5 Try.underlying9 (Kd.C_below HR279.out HB.out); have hcv45 := fun (n_ : Nat) => Kd.C_string (P := Try.prog) (A := A0) (c := c0) Try.underlying31 Try.underlying5 Try.underlying9 (Kd.C_drewN (Kd.C_below HR279.out HB.out) n_))))
                    go_ret
                    exact ⟨by first | rfl | (simp [errW_none, errW_some] <;> rfl) | (simp [*, errW_none, errW_some] <;> rfl), by repeat (first | (with_reducible first | exact HB.out | apply below_alloc | apply pw_below_drewN | apply below_drew1 | refine below_set ?_ GE263.out | refine below_set ?_ GE271.out) | exact HB.out)⟩
                  · rw [if_neg c37] at H
                    exact absurd H (by simp)
                · rw [if_neg c36] at H
                  have c36b0 : (t275 == 0) = false := beq_eq_false_iff_ne.mpr c36
                  have c36b1 : (t275 != 0) = true := bne_iff_ne.mpr c36
                  obtain rfl := Option.some.inj H
                  have hnb46 := NB263_271.out
                  have hnc46 := NB271_263.out
                  have hcz47_0 : wc.cell? ⟨gb263, 0, none⟩ = some (.int .i64 t256) := (blk_cell BK263.out 0).trans rfl
                  have hcz47_1 : wc.cell? ⟨gb263, 1, none⟩ = some (.int .i64 t257) := (blk_cell BK263.out 1).trans rfl
                  have hcz47_2 : wc.cell? ⟨gb263, 2, none⟩ = some (.int .i64 t258) := (blk_cell BK263.out 2).trans rfl
                  have hcz47_3 : wc.cell? ⟨gb263, 3, none⟩ = some (.int .i64 t259) := (blk_cell BK263.out 3).trans rfl
                  have hcz47_4 : wc.cell? ⟨gb263, 4, none⟩ = some (.int .u64 t260) := (blk_cell BK263.out 4).trans rfl
                  have hfz47_0 := blk_frozen BK263.out 0
                  have hfz47_1 := blk_frozen BK263.out 1
                  have hfz47_2 := blk_frozen BK263.out 2
                  have hfz47_3 := blk_frozen BK263.out 3
                  have hfz47_4 := blk_frozen BK263.out 4
                  go_wp2_with (first | (go_at_call 14; (with_reducible refine (code_Put.calls kj8 t256 t257 t258 t259 t260 t272 t275 _ A35.out).mono ?_); rintro e w48 ⟨v273, rfl, ho0, hb⟩; have n0_ := Aside0.mk (Kd.R_lower ho0 (below_size (by repeat (first | (with_reducible first | exact HB.out | apply below_alloc | apply pw_below_drewN | apply below_drew1 | refine below_set ?_ GE263.out | refine below_set ?_ GE271.out) | exact HB.out)))); have n1_ := Aside0.mk (blk_below (g := gb263) (o := .cells #[.int .i64 t256, .int .i64 t257, .int .i64 t258, .int .i64 t259, .int .u64 t260] 30 (0, 0)) (by (with_reducible repeat (first | refine blk_drewN ?_ _ | refine blk_drew ?_ | refine blk_alloc ?_ _)); exact BK263.out) hb); have n2_ := Aside0.mk (blk_below (g := gb271) (o := .cells #[.int .i64 t264, .int .i64 t265, .int .i64 t266, .int .i64 t267, .int .u64 t268] 30 (0, 0)) (by (with_reducible repeat (first | refine blk_drewN ?_ _ | refine blk_drew ?_ | refine blk_alloc ?_ _)); exact BK271.out) hb); have n3_ := Aside0.mk (below_step (by repeat (first | (with_reducible first | exact HB.out | apply below_alloc | apply pw_below_drewN | apply below_drew1 | refine below_set ?_ GE263.out | refine below_set ?_ GE271.out) | exact HB.out)) hb); clear BK263; clear BK271; clear HB; have HO274 := n0_; have BK263 := n1_; have BK271 := n2_; have HB := n3_; clear n0_ n1_ n2_ n3_; (try clear hb); (try clear hb2); (try clear hk); (try clear hi); (try clear ho0)))
                  repeat (go_quiet (fail); try go_wp2_with (first | (go_at_call 14; (with_reducible refine (code_Put.calls kj8 t256 t257 t258 t259 t260 t272 t275 _ A35.out).mono ?_); rintro e w48 ⟨v273, rfl, ho0, hb⟩; have n0_ := Aside0.mk (Kd.R_lower ho0 (below_size (by repeat (first | (with_reducible first | exact HB.out | apply below_alloc | apply pw_below_drewN | apply below_drew1 | refine below_set ?_ GE263.out | refine below_set ?_ GE271.out) | exact HB.out)))); have n1_ := Aside0.mk (blk_below (g := gb263) (o := .cells #[.int .i64 t256, .int .i64 t257, .int .i64 t258, .int .i64 t259, .int .u64 t260] 30 (0, 0)) (by (with_reducible repeat (first | refine blk_drewN ?_ _ | refine blk_drew ?_ | refine blk_alloc ?_ _)); exact BK263.out) hb); have n2_ := Aside0.mk (blk_below (g := gb271) (o := .cells #[.int .i64 t264, .int .i64 t265, .int .i64 t266, .int .i64 t267, .int .u64 t268] 30 (0, 0)) (by (with_reducible repeat (first | refine blk_drewN ?_ _ | refine blk_drew ?_ | refine blk_alloc ?_ _)); exact BK271.out) hb); have n3_ := Aside0.mk (below_step (by repeat (first | (with_reducible first | exact HB.out | apply below_alloc | apply pw_below_drewN | apply below_drew1 | refine below_set ?_ GE263.out | refine below_set ?_ GE271.out) | exact HB.out)) hb); clear BK263; clear BK271; clear HB; have HO274 := n0_; have BK263 := n1_; have BK271 := n2_; have HB := n3_; clear n0_ n1_ n2_ n3_; (try clear hb); (try clear hb2); (try clear hk); (try clear hi); (try clear ho0))))
                  go_ret
                  exact ⟨by first | rfl | (simp [errW_none, errW_some] <;> rfl) | (simp [*, errW_none, errW_some] <;> rfl), by repeat (first | (with_reducible first | exact HB.out | apply below_alloc | apply pw_below_drewN | apply below_drew1 | refine below_set ?_ GE263.out | refine below_set ?_ GE271.out) | exact HB.out)⟩
              · rw [if_neg c34] at H
                have c34b0 : (t261 == 0) = false := beq_eq_false_iff_ne.mpr c34
                have c34b1 : (t261 != 0) = true := bne_iff_ne.mpr c34
                obtain rfl := Option.some.inj H
                go_wp2
                repeat (go_quiet (fail); try go_wp2)
                go_ret
                exact ⟨by first | rfl | (simp [errW_none, errW_some] <;> rfl) | (simp [*, errW_none, errW_some] <;> rfl), by repeat (first | (with_reducible first | exact HB.out | apply below_alloc | apply pw_below_drewN | apply below_drew1 | refine below_set ?_ GE263.out | refine below_set ?_ GE271.out) | exact HB.out)⟩
      · rw [if_neg c6] at H
        exact absurd H (by simp)
  · replace c3 := Bool.eq_false_iff.mpr c3
    subst c3
    have H1 : (some false) = some r := by rw [if_neg (show ¬ (false = true) by decide)] at H; exact H
    clear H
    have H := H1
    clear H1
    obtain rfl := Option.some.inj H
    go_enter Try.func5, Try.ntmps5
    go_wp2_with (first | (go_at_call 7; (with_reducible refine (backreachlaw02_awake.calls k  false _ A2.out).mono ?_); rintro e w49 ⟨rfl, hb⟩; have n0_ := Aside0.mk (below_step (by repeat (first | (with_reducible first | exact HB.out | apply below_alloc | apply pw_below_drewN | apply below_drew1) | exact HB.out)) hb); clear HB; have HB := n0_; clear n0_; (try clear hb); (try clear hb2); (try clear hk); (try clear hi)))
    repeat (go_quiet (fail); try go_wp2_with (first | (go_at_call 7; (with_reducible refine (backreachlaw02_awake.calls k  false _ A2.out).mono ?_); rintro e w49 ⟨rfl, hb⟩; have n0_ := Aside0.mk (below_step (by repeat (first | (with_reducible first | exact HB.out | apply below_alloc | apply pw_below_drewN | apply below_drew1) | exact HB.out)) hb); clear HB; have HB := n0_; clear n0_; (try clear hb); (try clear hb2); (try clear hk); (try clear hi))))
    go_ret
    exact ⟨by first | rfl | (simp [errW_none, errW_some] <;> rfl) | (simp [*, errW_none, errW_some] <;> rfl), by repeat (first | (with_reducible first | exact HB.out | apply below_alloc | apply pw_below_drewN | apply below_drew1) | exact HB.out)⟩

/-- THE ONE PURE STATEMENT of backreachlaw02_CodeGets: yours. -/
def backreachlaw02_CodeGets.Pure : Prop := ∀ (l0 : List Int), l0.length ≤ maxLen → l0.length * 1 ≤ 140737488351232 → (∀ x ∈ l0, (Lit.int .u8 x).wf = true) → ∃ k, backreachlaw02_CodeGets.f k l0 = some true
theorem backreachlaw02_CodeGets.walk (P : backreachlaw02_CodeGets.Pure) (a0 : Option Addr) (len0 cap0 : Nat) (z0 : List Int) (w : World) (w0 : (a0 = none ∧ len0 = 0 ∧ cap0 = 0 ∧ z0 = []) ∨ ∃ x, a0 = some x ∧ len0 ≤ cap0 ∧ cap0 ≤ maxLen ∧ z0.length = cap0 ∧ (∀ i, i < z0.length → w.cell? (x.add i) = some (.int .u8 (z0.getD i 0))) ∧ ∀ n ∈ z0, (Lit.int .u8 n).wf = true) (y0 : len0 * 1 ≤ 140737488351232) :
    Calls Try.prog 5 #[.slice a0 len0 cap0] w fun e w' => e = .returned (.bool true) ∧ Below w.heap.size w w' := by
  obtain ⟨l0, rfl, hr0, hm0, hw0, hc0⟩ := ReadsInt.ofRowC w0
  obtain ⟨k, h⟩ := P l0 hm0 y0 hw0
  refine (backreachlaw02_CodeGets.calls k _ _ l0 true w (Kd.C_of_reads (d := (0 : Int)) (h1 := fun _ => rfl) hr0) hc0 h).mono ?_
  rintro e w' ⟨rfl, hd⟩
  exact ⟨rfl, hd⟩

end Go.Proofs.Ytmgfmabmliphfaa.P
