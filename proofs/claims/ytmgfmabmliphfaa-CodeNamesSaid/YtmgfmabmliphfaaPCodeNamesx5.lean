-- PRINTED BY print.sh 35421559b90ae4d0a3588c463048766b98c2df88dd9212a6774a882060cdf62d: not written by this session
import Derived.Test.YtmgfmabmliphfaaPCodeNamesx0
import Derived.Test.YtmgfmabmliphfaaPCodeNamesx2
import Derived.Test.YtmgfmabmliphfaaPCodeNamesx4
namespace Go.Proofs.Ytmgfmabmliphfaa.PCodeNames
open Go.RowKit Go.Proofs.YtmgfmabmliphfaaW.PrintWords Go.Proofs.YtmgfmabmliphfaaW.PrintLast Go.Proofs.YtmgfmabmliphfaaW.PrintMore
attribute [local go_sem] max2_int min2_int max_two min_two max_three min_three max_four min_four   -- for this text's walks alone
set_option linter.unusedVariables false
set_option linter.unusedSimpArgs false

/-! ### backreachlaw02_CodeNames: function 3 -/
def backreachlaw02_CodeNames.j0 : Nat → Int → ByteArray → Int → Bool → Bool → Option (Bool)
  | 0, _, _, _, _, _ => none
  | k + 1, x0, x1, x5, x6, x47 => if x47 = true then (some false) else ((code_Name.f x0).bind fun t168 => ((code_Op.f k t168).bind fun bt169 => (if x6 = true then ((code_Name.f x5).bind fun t171 => (if t171.toList = x1.toList then ((code_Name.f x0).bind fun t172 => (if t172.toList = ([] : List UInt8) then (some true) else (if bt169.2 = true then (some (bt169.1 == x0)) else (some false)))) else (some false))) else ((code_Name.f x0).bind fun t173 => (if t173.toList = ([] : List UInt8) then (some true) else (if bt169.2 = true then (some (bt169.1 == x0)) else (some false)))))))
def backreachlaw02_CodeNames.f (k : Nat) (a0 : Int) (a1 : ByteArray) : Option (Bool) := (backreachlaw02_awake.f k).bind fun t159 => (if t159 = true then (if (a1.size : Int) > 1000 then (some true) else ((code_Op.f k a1).bind fun bt160 => ((backreachref02_Op.f k a1).bind fun bt162 => (if bt160.1 = bt162.1 then (if (bt160.2 != bt162.2) = true then (backreachlaw02_CodeNames.j0 k a0 a1 bt160.1 bt160.2 true) else ((code_Name.f a0).bind fun t164 => ((backreachref02_Name.f a0).bind fun t165 => (if t164.toList = t165.toList then ((code_Goes.f a0).bind fun t166 => ((backreachref02_Goes.f a0).bind fun t167 => (backreachlaw02_CodeNames.j0 k a0 a1 bt160.1 bt160.2 (t166 != t167)))) else (backreachlaw02_CodeNames.j0 k a0 a1 bt160.1 bt160.2 true))))) else (backreachlaw02_CodeNames.j0 k a0 a1 bt160.1 bt160.2 true))))) else (some false))
theorem backreachlaw02_CodeNames.mono_l : ∀ k, (∀ y0 y1 y2 y3 y4, LeO (backreachlaw02_CodeNames.j0 k y0 y1 y2 y3 y4) (backreachlaw02_CodeNames.j0 (k + 1) y0 y1 y2 y3 y4))
  | 0 => fun _ _ _ _ _ r h => by simp [backreachlaw02_CodeNames.j0] at h
  | k + 1 => by
    have ih0 := backreachlaw02_CodeNames.mono_l k
    · intro y0 y1 y2 y3 y4
      unfold backreachlaw02_CodeNames.j0
      repeat' first
      | (with_reducible exact ih0 _ _ _ _ _)
      | (with_reducible exact backreachlaw02_awake.mono _)
      | (with_reducible exact backreachref02_Op.mono _ _)
      | (with_reducible exact code_Op.mono _ _)
      | (with_reducible exact LeO.refl _)
      | (with_reducible exact LeO.none _)
      | (with_reducible refine LeO.ite ?_ ?_)
      | (with_reducible refine LeO.bind ?_ (fun _ => ?_))
      | exact ih0 _ _ _ _ _
      | exact backreachlaw02_awake.mono _
      | exact backreachref02_Op.mono _ _
      | exact code_Op.mono _ _
      | exact LeO.none _
      | refine LeO.ite ?_ ?_
      | refine LeO.bind ?_ (fun _ => ?_)
theorem backreachlaw02_CodeNames.mono : ∀ a0 a1 k, LeO (backreachlaw02_CodeNames.f k a0 a1) (backreachlaw02_CodeNames.f (k + 1) a0 a1) := by
  intro a0 a1 k
  have ih0 := backreachlaw02_CodeNames.mono_l k
  unfold backreachlaw02_CodeNames.f
  repeat' first
      | (with_reducible exact ih0 _ _ _ _ _)
      | (with_reducible exact backreachlaw02_awake.mono _)
      | (with_reducible exact backreachref02_Op.mono _ _)
      | (with_reducible exact code_Op.mono _ _)
      | (with_reducible exact LeO.refl _)
      | (with_reducible exact LeO.none _)
      | (with_reducible refine LeO.ite ?_ ?_)
      | (with_reducible refine LeO.bind ?_ (fun _ => ?_))
      | exact ih0 _ _ _ _ _
      | exact backreachlaw02_awake.mono _
      | exact backreachref02_Op.mono _ _
      | exact code_Op.mono _ _
      | exact LeO.none _
      | refine LeO.ite ?_ ?_
      | refine LeO.bind ?_ (fun _ => ?_)
set_option maxHeartbeats 8000000 in
set_option maxRecDepth 100000 in
theorem backreachlaw02_CodeNames.calls (k : Nat) (a0 : Int) (a1 : ByteArray) (r : Bool) (w : World) (h : backreachlaw02_CodeNames.f k a0 a1 = some r) :
    Calls Try.prog 3 #[.int .i64 a0, .string a1] w fun e w' => e = .returned (.bool r) ∧ Below w.heap.size w w' := by
  have HB := Aside0.mk (Below.refl w.heap.size w)
  have H : ((backreachlaw02_awake.f k).bind fun t159 => (if t159 = true then (if (a1.size : Int) > 1000 then (some true) else ((code_Op.f k a1).bind fun bt160 => ((backreachref02_Op.f k a1).bind fun bt162 => (if bt160.1 = bt162.1 then (if (bt160.2 != bt162.2) = true then (backreachlaw02_CodeNames.j0 k a0 a1 bt160.1 bt160.2 true) else ((code_Name.f a0).bind fun t164 => ((backreachref02_Name.f a0).bind fun t165 => (if t164.toList = t165.toList then ((code_Goes.f a0).bind fun t166 => ((backreachref02_Goes.f a0).bind fun t167 => (backreachlaw02_CodeNames.j0 k a0 a1 bt160.1 bt160.2 (t166 != t167)))) else (backreachlaw02_CodeNames.j0 k a0 a1 bt160.1 bt160.2 true))))) else (backreachlaw02_CodeNames.j0 k a0 a1 bt160.1 bt160.2 true))))) else (some false))) = some r := h
  clear h
  replace H := Option.bind_eq_some_iff.mp H
  obtain ⟨t159, A30, H⟩ := H
  replace H : (if t159 = true then (if (a1.size : Int) > 1000 then (some true) else ((code_Op.f k a1).bind fun bt160 => ((backreachref02_Op.f k a1).bind fun bt162 => (if bt160.1 = bt162.1 then (if (bt160.2 != bt162.2) = true then (backreachlaw02_CodeNames.j0 k a0 a1 bt160.1 bt160.2 true) else ((code_Name.f a0).bind fun t164 => ((backreachref02_Name.f a0).bind fun t165 => (if t164.toList = t165.toList then ((code_Goes.f a0).bind fun t166 => ((backreachref02_Goes.f a0).bind fun t167 => (backreachlaw02_CodeNames.j0 k a0 a1 bt160.1 bt160.2 (t166 != t167)))) else (backreachlaw02_CodeNames.j0 k a0 a1 bt160.1 bt160.2 true))))) else (backreachlaw02_CodeNames.j0 k a0 a1 bt160.1 bt160.2 true))))) else (some false)) = some r := H
  have A3 := Aside0.mk A30
  clear A30
  by_cases c4 : t159 = true
  · subst c4
    have H1 : (if (a1.size : Int) > 1000 then (some true) else ((code_Op.f k a1).bind fun bt160 => ((backreachref02_Op.f k a1).bind fun bt162 => (if bt160.1 = bt162.1 then (if (bt160.2 != bt162.2) = true then (backreachlaw02_CodeNames.j0 k a0 a1 bt160.1 bt160.2 true) else ((code_Name.f a0).bind fun t164 => ((backreachref02_Name.f a0).bind fun t165 => (if t164.toList = t165.toList then ((code_Goes.f a0).bind fun t166 => ((backreachref02_Goes.f a0).bind fun t167 => (backreachlaw02_CodeNames.j0 k a0 a1 bt160.1 bt160.2 (t166 != t167)))) else (backreachlaw02_CodeNames.j0 k a0 a1 bt160.1 bt160.2 true))))) else (backreachlaw02_CodeNames.j0 k a0 a1 bt160.1 bt160.2 true))))) = some r := by rw [if_pos rfl] at H; exact H
    clear H
    have H := H1
    clear H1
    by_cases c5 : (a1.size : Int) > 1000
    · rw [if_pos c5] at H
      have c5b0 : decide (1000 < (a1.size : Int)) = true := decide_eq_true c5
      have c5b1 : decide (1000 < a1.size) = true := decide_eq_true (by omega)
      clear c5
      obtain rfl := Option.some.inj H
      go_enter Try.func3, Try.ntmps3
      go_wp2_with (first | ((with_reducible refine gate_callee (f := 7) rfl ?_); refine goesL_ (some 11) rfl rfl Try.func7 (by kernel_rfl) rfl #[] rfl (by (try simp only [List.map_toArray, List.map_cons, List.map_nil]); first | done | rfl | (simp only [List.length_drop, List.length_take]; rfl)) ?_; (with_reducible refine (backreachlaw02_awake.calls k  true _ A3.out).mono ?_); rintro e w6 ⟨rfl, hb⟩; refine ⟨_, rfl, ?_⟩; have n0_ := Aside0.mk (below_step (by repeat (first | (with_reducible first | exact HB.out | apply below_alloc | apply pw_below_drewN | apply below_drew1) | exact HB.out)) hb); clear HB; have HB := n0_; clear n0_; (try clear hb); (try clear hb2); (try clear hk); (try clear hi)))
      go_ret
      exact ⟨by first | rfl | (simp [errW_none, errW_some] <;> rfl) | (simp [*, errW_none, errW_some] <;> rfl), by repeat (first | (with_reducible first | exact HB.out | apply below_alloc | apply pw_below_drewN | apply below_drew1) | exact HB.out)⟩
    · rw [if_neg c5] at H
      have c5b0 : decide (1000 < (a1.size : Int)) = false := decide_eq_false c5
      have c5b1 : decide (1000 < a1.size) = false := decide_eq_false (by omega)
      clear c5
      replace H := Option.bind_eq_some_iff.mp H
      obtain ⟨⟨t160, t161⟩, A70, H⟩ := H
      replace H : ((backreachref02_Op.f k a1).bind fun bt162 => (if t160 = bt162.1 then (if (t161 != bt162.2) = true then (backreachlaw02_CodeNames.j0 k a0 a1 t160 t161 true) else ((code_Name.f a0).bind fun t164 => ((backreachref02_Name.f a0).bind fun t165 => (if t164.toList = t165.toList then ((code_Goes.f a0).bind fun t166 => ((backreachref02_Goes.f a0).bind fun t167 => (backreachlaw02_CodeNames.j0 k a0 a1 t160 t161 (t166 != t167)))) else (backreachlaw02_CodeNames.j0 k a0 a1 t160 t161 true))))) else (backreachlaw02_CodeNames.j0 k a0 a1 t160 t161 true))) = some r := H
      have A7 := Aside0.mk A70
      clear A70
      replace H := Option.bind_eq_some_iff.mp H
      obtain ⟨⟨t162, t163⟩, A80, H⟩ := H
      replace H : (if t160 = t162 then (if (t161 != t163) = true then (backreachlaw02_CodeNames.j0 k a0 a1 t160 t161 true) else ((code_Name.f a0).bind fun t164 => ((backreachref02_Name.f a0).bind fun t165 => (if t164.toList = t165.toList then ((code_Goes.f a0).bind fun t166 => ((backreachref02_Goes.f a0).bind fun t167 => (backreachlaw02_CodeNames.j0 k a0 a1 t160 t161 (t166 != t167)))) else (backreachlaw02_CodeNames.j0 k a0 a1 t160 t161 true))))) else (backreachlaw02_CodeNames.j0 k a0 a1 t160 t161 true)) = some r := H
      have A8 := Aside0.mk A80
      clear A80
      have HC9 := Aside0.mk H
      clear H
      go_enter Try.func3, Try.ntmps3
      go_upto_region 7 with (first | ((with_reducible refine gate_callee (f := 7) rfl ?_); refine goesL_ (some 11) rfl rfl Try.func7 (by kernel_rfl) rfl #[] rfl (by (try simp only [List.map_toArray, List.map_cons, List.map_nil]); first | done | rfl | (simp only [List.length_drop, List.length_take]; rfl)) ?_; (with_reducible refine (backreachlaw02_awake.calls k  true _ A3.out).mono ?_); rintro e w10 ⟨rfl, hb⟩; refine ⟨_, rfl, ?_⟩; have n0_ := Aside0.mk (below_step (by repeat (first | (with_reducible first | exact HB.out | apply below_alloc | apply pw_below_drewN | apply below_drew1) | exact HB.out)) hb); clear HB; have HB := n0_; clear n0_; (try clear hb); (try clear hb2); (try clear hk); (try clear hi)) | ((with_reducible refine gate_callee (f := 8) rfl ?_); refine goesL_ (some 18) rfl rfl Try.func8 (by kernel_rfl) rfl #[.string a1] rfl (by (try simp only [List.map_toArray, List.map_cons, List.map_nil]); first | done | rfl | (simp only [List.length_drop, List.length_take]; rfl)) ?_; (with_reducible refine (code_Op.calls k a1 t160 t161 _ A7.out).mono ?_); rintro e w11 ⟨rfl, hb⟩; refine ⟨_, rfl, ?_⟩; have n0_ := Aside0.mk (below_step (by repeat (first | (with_reducible first | exact HB.out | apply below_alloc | apply pw_below_drewN | apply below_drew1) | exact HB.out)) hb); clear HB; have HB := n0_; clear n0_; (try clear hb); (try clear hb2); (try clear hk); (try clear hi)) | ((with_reducible refine gate_callee (f := 9) rfl ?_); refine goesL_ (some 23) rfl rfl Try.func9 (by kernel_rfl) rfl #[.string a1] rfl (by (try simp only [List.map_toArray, List.map_cons, List.map_nil]); first | done | rfl | (simp only [List.length_drop, List.length_take]; rfl)) ?_; (with_reducible refine (backreachref02_Op.calls k a1 t162 t163 _ A8.out).mono ?_); rintro e w12 ⟨rfl, hb⟩; refine ⟨_, rfl, ?_⟩; have n0_ := Aside0.mk (below_step (by repeat (first | (with_reducible first | exact HB.out | apply below_alloc | apply pw_below_drewN | apply below_drew1) | exact HB.out)) hb); clear HB; have HB := n0_; clear n0_; (try clear hb); (try clear hb2); (try clear hk); (try clear hi)))
      (try simp only [Act.put, List.setIfInBounds_toArray, List.set_cons_zero, List.set_cons_succ])
      go_cut [47] (fun v47 wc => ∃ (kq : Nat) (x47_8 : Bool), v47 = .bool x47_8 ∧ Aside0 (backreachlaw02_CodeNames.j0 kq a0 a1 t160 t161 x47_8 = some r) ∧ Aside0 (kq ≤ k) ∧ Aside0 (Below w.heap.size w wc))
      case first =>
        have H := HC9.out
        clear HC9
        by_cases c13 : t160 = t162
        · rw [if_pos c13] at H
          have c13b0 : (t160 == t162) = true := beq_iff_eq.mpr c13
          have c13b1 : (t160 != t162) = false := bne_eq_false_iff_eq.mpr c13
          clear c13
          (first | rw [c13b0] | (simp only [i64_w, i32_w]; rw [c13b0]) | skip)
          by_cases c14 : (t161 != t163) = true
          · rw [if_pos c14] at H
            have c14b0 : (t161 != t163) = true := c14
            (try (have c14b1 : decide (t161 = t163) = false := by simpa using c14))
            (try (have c14b2 : (t161 == t163) = false := by simpa using c14))
            (try (have c14b3 : ¬ (t161 = t163) := by simpa using c14))
            clear c14
            have H' := Aside0.mk H
            clear H
            go_wp2
            go_meet
            case rel => exact ⟨_, (true), (by first | rfl | (simp; done) | (simp [*]; done)), H', ⟨by first | omega | exact Nat.le_refl _⟩, ⟨by repeat (first | (with_reducible first | exact HB.out | apply below_alloc | apply pw_below_drewN | apply below_drew1) | exact HB.out)⟩⟩
          · rw [if_neg c14] at H
            have c14b0 : (t161 != t163) = false := by simpa using c14
            (try (have c14b1 : decide (t161 = t163) = true := by simpa using c14))
            (try (have c14b2 : (t161 == t163) = true := by simpa using c14))
            clear c14
            replace H := Option.bind_eq_some_iff.mp H
            obtain ⟨t164, A150, H⟩ := H
            replace H : ((backreachref02_Name.f a0).bind fun t165 => (if t164.toList = t165.toList then ((code_Goes.f a0).bind fun t166 => ((backreachref02_Goes.f a0).bind fun t167 => (backreachlaw02_CodeNames.j0 k a0 a1 t160 t161 (t166 != t167)))) else (backreachlaw02_CodeNames.j0 k a0 a1 t160 t161 true))) = some r := H
            have A15 := Aside0.mk A150
            clear A150
            replace H := Option.bind_eq_some_iff.mp H
            obtain ⟨t165, A160, H⟩ := H
            replace H : (if t164.toList = t165.toList then ((code_Goes.f a0).bind fun t166 => ((backreachref02_Goes.f a0).bind fun t167 => (backreachlaw02_CodeNames.j0 k a0 a1 t160 t161 (t166 != t167)))) else (backreachlaw02_CodeNames.j0 k a0 a1 t160 t161 true)) = some r := H
            have A16 := Aside0.mk A160
            clear A160
            by_cases c17 : t164.toList = t165.toList
            · rw [if_pos c17] at H
              have c17b0 : (t164.toList == t165.toList) = true := beq_iff_eq.mpr c17
              have c17b1 : (t164.toList != t165.toList) = false := bne_eq_false_iff_eq.mpr c17
              clear c17
              replace H := Option.bind_eq_some_iff.mp H
              obtain ⟨t166, A180, H⟩ := H
              replace H : ((backreachref02_Goes.f a0).bind fun t167 => (backreachlaw02_CodeNames.j0 k a0 a1 t160 t161 (t166 != t167))) = some r := H
              have A18 := Aside0.mk A180
              clear A180
              replace H := Option.bind_eq_some_iff.mp H
              obtain ⟨t167, A190, H⟩ := H
              replace H : (backreachlaw02_CodeNames.j0 k a0 a1 t160 t161 (t166 != t167)) = some r := H
              have A19 := Aside0.mk A190
              clear A190
              have H' := Aside0.mk H
              clear H
              go_wp2_with (first | (go_at_call 10; (with_reducible refine (code_Name.calls a0 t164 _ A15.out).mono ?_); rintro e w20 ⟨rfl, hb⟩; have n0_ := Aside0.mk (below_step (by repeat (first | (with_reducible first | exact HB.out | apply below_alloc | apply pw_below_drewN | apply below_drew1) | exact HB.out)) hb); clear HB; have HB := n0_; clear n0_; (try clear hb); (try clear hb2); (try clear hk); (try clear hi)) | (go_at_call 11; (with_reducible refine (backreachref02_Name.calls a0 t165 _ A16.out).mono ?_); rintro e w21 ⟨rfl, hb⟩; have n0_ := Aside0.mk (below_step (by repeat (first | (with_reducible first | exact HB.out | apply below_alloc | apply pw_below_drewN | apply below_drew1) | exact HB.out)) hb); clear HB; have HB := n0_; clear n0_; (try clear hb); (try clear hb2); (try clear hk); (try clear hi)) | (go_at_call 12; (with_reducible refine (code_Goes.calls a0 t166 _ A18.out).mono ?_); rintro e w' ⟨rfl, ⟨nd, rfl⟩⟩) | (go_at_call 13; (with_reducible refine (backreachref02_Goes.calls a0 t167 _ A19.out).mono ?_); rintro e w' ⟨rfl, ⟨nd, rfl⟩⟩))
              go_meet
              case rel => exact ⟨_, ((t166 != t167)), (by first | rfl | (simp; done) | (simp [*]; done)), H', ⟨by first | omega | exact Nat.le_refl _⟩, ⟨by repeat (first | (with_reducible first | exact HB.out | apply below_alloc | apply pw_below_drewN | apply below_drew1) | exact HB.out)⟩⟩
            · rw [if_neg c17] at H
              have c17b0 : (t164.toList == t165.toList) = false := beq_eq_false_iff_ne.mpr c17
              have c17b1 : (t164.toList != t165.toList) = true := bne_iff_ne.mpr c17
              have H' := Aside0.mk H
              clear H
              go_wp2_with (first | (go_at_call 10; (with_reducible refine (code_Name.calls a0 t164 _ A15.out).mono ?_); rintro e w22 ⟨rfl, hb⟩; have n0_ := Aside0.mk (below_step (by repeat (first | (with_reducible first | exact HB.out | apply below_alloc | apply pw_below_drewN | apply below_drew1) | exact HB.out)) hb); clear HB; have HB := n0_; clear n0_; (try clear hb); (try clear hb2); (try clear hk); (try clear hi)) | (go_at_call 11; (with_reducible refine (backreachref02_Name.calls a0 t165 _ A16.out).mono ?_); rintro e w23 ⟨rfl, hb⟩; have n0_ := Aside0.mk (below_step (by repeat (first | (with_reducible first | exact HB.out | apply below_alloc | apply pw_below_drewN | apply below_drew1) | exact HB.out)) hb); clear HB; have HB := n0_; clear n0_; (try clear hb); (try clear hb2); (try clear hk); (try clear hi)))
              go_meet
              case rel => exact ⟨_, (true), (by first | rfl | (simp; done) | (simp [*]; done)), H', ⟨by first | omega | exact Nat.le_refl _⟩, ⟨by repeat (first | (with_reducible first | exact HB.out | apply below_alloc | apply pw_below_drewN | apply below_drew1) | exact HB.out)⟩⟩
        · rw [if_neg c13] at H
          have c13b0 : (t160 == t162) = false := beq_eq_false_iff_ne.mpr c13
          have c13b1 : (t160 != t162) = true := bne_iff_ne.mpr c13
          (first | rw [c13b0] | (simp only [i64_w, i32_w]; rw [c13b0]) | skip)
          have H' := Aside0.mk H
          clear H
          go_wp2
          go_meet
          case rel => exact ⟨_, (true), (by first | rfl | (simp; done) | (simp [*]; done)), H', ⟨by first | omega | exact Nat.le_refl _⟩, ⟨by repeat (first | (with_reducible first | exact HB.out | apply below_alloc | apply pw_below_drewN | apply below_drew1) | exact HB.out)⟩⟩
      case rest =>
        clear HC9
        try clear c1
        try clear p2
        try clear c3
        try clear c4
        try clear c5
        try clear c5b0
        try clear c5b1
        try clear c7
        try clear c8
        try clear c9
        try clear c13
        try clear c13b0
        try clear c13b1
        try clear c14
        try clear c14b0
        try clear c14b1
        try clear c14b2
        try clear c17
        try clear c17b0
        try clear c17b1
        obtain ⟨kq, x47_8, rfl, HA, HJ8, HB⟩ := hcut
        cases kq with
        | zero => exact absurd HA.out (by simp [backreachlaw02_CodeNames.j0])
        | succ kj8 =>
          have H := HA.out
          clear HA
          simp only [backreachlaw02_CodeNames.j0] at H
          by_cases c24 : x47_8 = true
          · subst c24
            have H1 : (some false) = some r := by rw [if_pos rfl] at H; exact H
            clear H
            have H := H1
            clear H1
            obtain rfl := Option.some.inj H
            go_wp2
            go_ret
            exact ⟨by first | rfl | (simp [errW_none, errW_some] <;> rfl) | (simp [*, errW_none, errW_some] <;> rfl), by repeat (first | (with_reducible first | exact HB.out | apply below_alloc | apply pw_below_drewN | apply below_drew1) | exact HB.out)⟩
          · replace c24 := Bool.eq_false_iff.mpr c24
            subst c24
            have H1 : ((code_Name.f a0).bind fun t168 => ((code_Op.f kj8 t168).bind fun bt169 => (if t161 = true then ((code_Name.f t160).bind fun t171 => (if t171.toList = a1.toList then ((code_Name.f a0).bind fun t172 => (if t172.toList = ([] : List UInt8) then (some true) else (if bt169.2 = true then (some (bt169.1 == a0)) else (some false)))) else (some false))) else ((code_Name.f a0).bind fun t173 => (if t173.toList = ([] : List UInt8) then (some true) else (if bt169.2 = true then (some (bt169.1 == a0)) else (some false))))))) = some r := by rw [if_neg (show ¬ (false = true) by decide)] at H; exact H
            clear H
            have H := H1
            clear H1
            replace H := Option.bind_eq_some_iff.mp H
            obtain ⟨t168, A250, H⟩ := H
            replace H : ((code_Op.f kj8 t168).bind fun bt169 => (if t161 = true then ((code_Name.f t160).bind fun t171 => (if t171.toList = a1.toList then ((code_Name.f a0).bind fun t172 => (if t172.toList = ([] : List UInt8) then (some true) else (if bt169.2 = true then (some (bt169.1 == a0)) else (some false)))) else (some false))) else ((code_Name.f a0).bind fun t173 => (if t173.toList = ([] : List UInt8) then (some true) else (if bt169.2 = true then (some (bt169.1 == a0)) else (some false)))))) = some r := H
            have A25 := Aside0.mk A250
            clear A250
            replace H := Option.bind_eq_some_iff.mp H
            obtain ⟨⟨t169, t170⟩, A260, H⟩ := H
            replace H : (if t161 = true then ((code_Name.f t160).bind fun t171 => (if t171.toList = a1.toList then ((code_Name.f a0).bind fun t172 => (if t172.toList = ([] : List UInt8) then (some true) else (if t170 = true then (some (t169 == a0)) else (some false)))) else (some false))) else ((code_Name.f a0).bind fun t173 => (if t173.toList = ([] : List UInt8) then (some true) else (if t170 = true then (some (t169 == a0)) else (some false))))) = some r := H
            have A26 := Aside0.mk A260
            clear A260
            by_cases c27 : t161 = true
            · subst c27
              have H1 : ((code_Name.f t160).bind fun t171 => (if t171.toList = a1.toList then ((code_Name.f a0).bind fun t172 => (if t172.toList = ([] : List UInt8) then (some true) else (if t170 = true then (some (t169 == a0)) else (some false)))) else (some false))) = some r := by rw [if_pos rfl] at H; exact H
              clear H
              have H := H1
              clear H1
              replace H := Option.bind_eq_some_iff.mp H
              obtain ⟨t171, A280, H⟩ := H
              replace H : (if t171.toList = a1.toList then ((code_Name.f a0).bind fun t172 => (if t172.toList = ([] : List UInt8) then (some true) else (if t170 = true then (some (t169 == a0)) else (some false)))) else (some false)) = some r := H
              have A28 := Aside0.mk A280
              clear A280
              by_cases c29 : t171.toList = a1.toList
              · rw [if_pos c29] at H
                have c29b0 : (t171.toList == a1.toList) = true := beq_iff_eq.mpr c29
                have c29b1 : (t171.toList != a1.toList) = false := bne_eq_false_iff_eq.mpr c29
                clear c29
                replace H := Option.bind_eq_some_iff.mp H
                obtain ⟨t172, A300, H⟩ := H
                replace H : (if t172.toList = ([] : List UInt8) then (some true) else (if t170 = true then (some (t169 == a0)) else (some false))) = some r := H
                have A30 := Aside0.mk A300
                clear A300
                by_cases c31 : t172.toList = ([] : List UInt8)
                · rw [if_pos c31] at H
                  have c31b0 : (t172.toList == ([] : List UInt8)) = true := beq_iff_eq.mpr c31
                  have c31b1 : (t172.toList != ([] : List UInt8)) = false := bne_eq_false_iff_eq.mpr c31
                  clear c31
                  obtain rfl := Option.some.inj H
                  go_wp2_with (first | ((with_reducible refine gate_callee (f := 10) rfl ?_); refine goesL_ (some 50) rfl rfl Try.func10 (by kernel_rfl) rfl #[.int .i64 a0] rfl (by (try simp only [List.map_toArray, List.map_cons, List.map_nil]); first | done | rfl | (simp only [List.length_drop, List.length_take]; rfl)) ?_; (with_reducible refine (code_Name.calls a0 t168 _ A25.out).mono ?_); rintro e w32 ⟨rfl, hb⟩; refine ⟨_, rfl, ?_⟩; have n0_ := Aside0.mk (below_step (by repeat (first | (with_reducible first | exact HB.out | apply below_alloc | apply pw_below_drewN | apply below_drew1) | exact HB.out)) hb); clear HB; have HB := n0_; clear n0_; (try clear hb); (try clear hb2); (try clear hk); (try clear hi)) | ((with_reducible refine gate_callee (f := 8) rfl ?_); refine goesL_ (some 51) rfl rfl Try.func8 (by kernel_rfl) rfl #[.string t168] rfl (by (try simp only [List.map_toArray, List.map_cons, List.map_nil]); first | done | rfl | (simp only [List.length_drop, List.length_take]; rfl)) ?_; (with_reducible refine (code_Op.calls kj8 t168 t169 t170 _ A26.out).mono ?_); rintro e w33 ⟨rfl, hb⟩; refine ⟨_, rfl, ?_⟩; have n0_ := Aside0.mk (below_step (by repeat (first | (with_reducible first | exact HB.out | apply below_alloc | apply pw_below_drewN | apply below_drew1) | exact HB.out)) hb); clear HB; have HB := n0_; clear n0_; (try clear hb); (try clear hb2); (try clear hk); (try clear hi)) | (go_at_call 10; (with_reducible refine (code_Name.calls t160 t171 _ A28.out).mono ?_); rintro e w34 ⟨rfl, hb⟩; have n0_ := Aside0.mk (below_step (by repeat (first | (with_reducible first | exact HB.out | apply below_alloc | apply pw_below_drewN | apply below_drew1) | exact HB.out)) hb); clear HB; have HB := n0_; clear n0_; (try clear hb); (try clear hb2); (try clear hk); (try clear hi)) | (go_at_call 10; (with_reducible refine (code_Name.calls a0 t172 _ A30.out).mono ?_); rintro e w35 ⟨rfl, hb⟩; have n0_ := Aside0.mk (below_step (by repeat (first | (with_reducible first | exact HB.out | apply below_alloc | apply pw_below_drewN | apply below_drew1) | exact HB.out)) hb); clear HB; have HB := n0_; clear n0_; (try clear hb); (try clear hb2); (try clear hk); (try clear hi)))
                  go_ret
                  exact ⟨by first | rfl | (simp [errW_none, errW_some] <;> rfl) | (simp [*, errW_none, errW_some] <;> rfl), by repeat (first | (with_reducible first | exact HB.out | apply below_alloc | apply pw_below_drewN | apply below_drew1) | exact HB.out)⟩
                · rw [if_neg c31] at H
                  have c31b0 : (t172.toList == ([] : List UInt8)) = false := beq_eq_false_iff_ne.mpr c31
                  have c31b1 : (t172.toList != ([] : List UInt8)) = true := bne_iff_ne.mpr c31
                  by_cases c36 : t170 = true
                  · subst c36
                    have H1 : (some (t169 == a0)) = some r := by rw [if_pos rfl] at H; exact H
                    clear H
                    have H := H1
                    clear H1
                    obtain rfl := Option.some.inj H
                    go_wp2_with (first | ((with_reducible refine gate_callee (f := 10) rfl ?_); refine goesL_ (some 50) rfl rfl Try.func10 (by kernel_rfl) rfl #[.int .i64 a0] rfl (by (try simp only [List.map_toArray, List.map_cons, List.map_nil]); first | done | rfl | (simp only [List.length_drop, List.length_take]; rfl)) ?_; (with_reducible refine (code_Name.calls a0 t168 _ A25.out).mono ?_); rintro e w37 ⟨rfl, hb⟩; refine ⟨_, rfl, ?_⟩; have n0_ := Aside0.mk (below_step (by repeat (first | (with_reducible first | exact HB.out | apply below_alloc | apply pw_below_drewN | apply below_drew1) | exact HB.out)) hb); clear HB; have HB := n0_; clear n0_; (try clear hb); (try clear hb2); (try clear hk); (try clear hi)) | ((with_reducible refine gate_callee (f := 8) rfl ?_); refine goesL_ (some 51) rfl rfl Try.func8 (by kernel_rfl) rfl #[.string t168] rfl (by (try simp only [List.map_toArray, List.map_cons, List.map_nil]); first | done | rfl | (simp only [List.length_drop, List.length_take]; rfl)) ?_; (with_reducible refine (code_Op.calls kj8 t168 t169 true _ A26.out).mono ?_); rintro e w38 ⟨rfl, hb⟩; refine ⟨_, rfl, ?_⟩; have n0_ := Aside0.mk (below_step (by repeat (first | (with_reducible first | exact HB.out | apply below_alloc | apply pw_below_drewN | apply below_drew1) | exact HB.out)) hb); clear HB; have HB := n0_; clear n0_; (try clear hb); (try clear hb2); (try clear hk); (try clear hi)) | (go_at_call 10; (with_reducible refine (code_Name.calls t160 t171 _ A28.out).mono ?_); rintro e w39 ⟨rfl, hb⟩; have n0_ := Aside0.mk (below_step (by repeat (first | (with_reducible first | exact HB.out | apply below_alloc | apply pw_below_drewN | apply below_drew1) | exact HB.out)) hb); clear HB; have HB := n0_; clear n0_; (try clear hb); (try clear hb2); (try clear hk); (try clear hi)) | (go_at_call 10; (with_reducible refine (code_Name.calls a0 t172 _ A30.out).mono ?_); rintro e w40 ⟨rfl, hb⟩; have n0_ := Aside0.mk (below_step (by repeat (first | (with_reducible first | exact HB.out | apply below_alloc | apply pw_below_drewN | apply below_drew1) | exact HB.out)) hb); clear HB; have HB := n0_; clear n0_; (try clear hb); (try clear hb2); (try clear hk); (try clear hi)))
                    go_ret
                    exact ⟨by first | rfl | (simp [errW_none, errW_some] <;> rfl) | (simp [*, errW_none, errW_some] <;> rfl), by repeat (first | (with_reducible first | exact HB.out | apply below_alloc | apply pw_below_drewN | apply below_drew1) | exact HB.out)⟩
                  · replace c36 := Bool.eq_false_iff.mpr c36
                    subst c36
                    have H1 : (some false) = some r := by rw [if_neg (show ¬ (false = true) by decide)] at H; exact H
                    clear H
                    have H := H1
                    clear H1
                    obtain rfl := Option.some.inj H
                    go_wp2_with (first | ((with_reducible refine gate_callee (f := 10) rfl ?_); refine goesL_ (some 50) rfl rfl Try.func10 (by kernel_rfl) rfl #[.int .i64 a0] rfl (by (try simp only [List.map_toArray, List.map_cons, List.map_nil]); first | done | rfl | (simp only [List.length_drop, List.length_take]; rfl)) ?_; (with_reducible refine (code_Name.calls a0 t168 _ A25.out).mono ?_); rintro e w41 ⟨rfl, hb⟩; refine ⟨_, rfl, ?_⟩; have n0_ := Aside0.mk (below_step (by repeat (first | (with_reducible first | exact HB.out | apply below_alloc | apply pw_below_drewN | apply below_drew1) | exact HB.out)) hb); clear HB; have HB := n0_; clear n0_; (try clear hb); (try clear hb2); (try clear hk); (try clear hi)) | ((with_reducible refine gate_callee (f := 8) rfl ?_); refine goesL_ (some 51) rfl rfl Try.func8 (by kernel_rfl) rfl #[.string t168] rfl (by (try simp only [List.map_toArray, List.map_cons, List.map_nil]); first | done | rfl | (simp only [List.length_drop, List.length_take]; rfl)) ?_; (with_reducible refine (code_Op.calls kj8 t168 t169 false _ A26.out).mono ?_); rintro e w42 ⟨rfl, hb⟩; refine ⟨_, rfl, ?_⟩; have n0_ := Aside0.mk (below_step (by repeat (first | (with_reducible first | exact HB.out | apply below_alloc | apply pw_below_drewN | apply below_drew1) | exact HB.out)) hb); clear HB; have HB := n0_; clear n0_; (try clear hb); (try clear hb2); (try clear hk); (try clear hi)) | (go_at_call 10; (with_reducible refine (code_Name.calls t160 t171 _ A28.out).mono ?_); rintro e w43 ⟨rfl, hb⟩; have n0_ := Aside0.mk (below_step (by repeat (first | (with_reducible first | exact HB.out | apply below_alloc | apply pw_below_drewN | apply below_drew1) | exact HB.out)) hb); clear HB; have HB := n0_; clear n0_; (try clear hb); (try clear hb2); (try clear hk); (try clear hi)) | (go_at_call 10; (with_reducible refine (code_Name.calls a0 t172 _ A30.out).mono ?_); rintro e w44 ⟨rfl, hb⟩; have n0_ := Aside0.mk (below_step (by repeat (first | (with_reducible first | exact HB.out | apply below_alloc | apply pw_below_drewN | apply below_drew1) | exact HB.out)) hb); clear HB; have HB := n0_; clear n0_; (try clear hb); (try clear hb2); (try clear hk); (try clear hi)))
                    go_ret
                    exact ⟨by first | rfl | (simp [errW_none, errW_some] <;> rfl) | (simp [*, errW_none, errW_some] <;> rfl), by repeat (first | (with_reducible first | exact HB.out | apply below_alloc | apply pw_below_drewN | apply below_drew1) | exact HB.out)⟩
              · rw [if_neg c29] at H
                have c29b0 : (t171.toList == a1.toList) = false := beq_eq_false_iff_ne.mpr c29
                have c29b1 : (t171.toList != a1.toList) = true := bne_iff_ne.mpr c29
                obtain rfl := Option.some.inj H
                go_wp2_with (first | ((with_reducible refine gate_callee (f := 10) rfl ?_); refine goesL_ (some 50) rfl rfl Try.func10 (by kernel_rfl) rfl #[.int .i64 a0] rfl (by (try simp only [List.map_toArray, List.map_cons, List.map_nil]); first | done | rfl | (simp only [List.length_drop, List.length_take]; rfl)) ?_; (with_reducible refine (code_Name.calls a0 t168 _ A25.out).mono ?_); rintro e w45 ⟨rfl, hb⟩; refine ⟨_, rfl, ?_⟩; have n0_ := Aside0.mk (below_step (by repeat (first | (with_reducible first | exact HB.out | apply below_alloc | apply pw_below_drewN | apply below_drew1) | exact HB.out)) hb); clear HB; have HB := n0_; clear n0_; (try clear hb); (try clear hb2); (try clear hk); (try clear hi)) | ((with_reducible refine gate_callee (f := 8) rfl ?_); refine goesL_ (some 51) rfl rfl Try.func8 (by kernel_rfl) rfl #[.string t168] rfl (by (try simp only [List.map_toArray, List.map_cons, List.map_nil]); first | done | rfl | (simp only [List.length_drop, List.length_take]; rfl)) ?_; (with_reducible refine (code_Op.calls kj8 t168 t169 t170 _ A26.out).mono ?_); rintro e w46 ⟨rfl, hb⟩; refine ⟨_, rfl, ?_⟩; have n0_ := Aside0.mk (below_step (by repeat (first | (with_reducible first | exact HB.out | apply below_alloc | apply pw_below_drewN | apply below_drew1) | exact HB.out)) hb); clear HB; have HB := n0_; clear n0_; (try clear hb); (try clear hb2); (try clear hk); (try clear hi)) | (go_at_call 10; (with_reducible refine (code_Name.calls t160 t171 _ A28.out).mono ?_); rintro e w47 ⟨rfl, hb⟩; have n0_ := Aside0.mk (below_step (by repeat (first | (with_reducible first | exact HB.out | apply below_alloc | apply pw_below_drewN | apply below_drew1) | exact HB.out)) hb); clear HB; have HB := n0_; clear n0_; (try clear hb); (try clear hb2); (try clear hk); (try clear hi)))
                go_ret
                exact ⟨by first | rfl | (simp [errW_none, errW_some] <;> rfl) | (simp [*, errW_none, errW_some] <;> rfl), by repeat (first | (with_reducible first | exact HB.out | apply below_alloc | apply pw_below_drewN | apply below_drew1) | exact HB.out)⟩
            · replace c27 := Bool.eq_false_iff.mpr c27
              subst c27
              have H1 : ((code_Name.f a0).bind fun t173 => (if t173.toList = ([] : List UInt8) then (some true) else (if t170 = true then (some (t169 == a0)) else (some false)))) = some r := by rw [if_neg (show ¬ (false = true) by decide)] at H; exact H
              clear H
              have H := H1
              clear H1
              replace H := Option.bind_eq_some_iff.mp H
              obtain ⟨t173, A480, H⟩ := H
              replace H : (if t173.toList = ([] : List UInt8) then (some true) else (if t170 = true then (some (t169 == a0)) else (some false))) = some r := H
              have A48 := Aside0.mk A480
              clear A480
              by_cases c49 : t173.toList = ([] : List UInt8)
              · rw [if_pos c49] at H
                have c49b0 : (t173.toList == ([] : List UInt8)) = true := beq_iff_eq.mpr c49
                have c49b1 : (t173.toList != ([] : List UInt8)) = false := bne_eq_false_iff_eq.mpr c49
                clear c49
                obtain rfl := Option.some.inj H
                go_wp2_with (first | ((with_reducible refine gate_callee (f := 10) rfl ?_); refine goesL_ (some 50) rfl rfl Try.func10 (by kernel_rfl) rfl #[.int .i64 a0] rfl (by (try simp only [List.map_toArray, List.map_cons, List.map_nil]); first | done | rfl | (simp only [List.length_drop, List.length_take]; rfl)) ?_; (with_reducible refine (code_Name.calls a0 t168 _ A25.out).mono ?_); rintro e w50 ⟨rfl, hb⟩; refine ⟨_, rfl, ?_⟩; have n0_ := Aside0.mk (below_step (by repeat (first | (with_reducible first | exact HB.out | apply below_alloc | apply pw_below_drewN | apply below_drew1) | exact HB.out)) hb); clear HB; have HB := n0_; clear n0_; (try clear hb); (try clear hb2); (try clear hk); (try clear hi)) | ((with_reducible refine gate_callee (f := 8) rfl ?_); refine goesL_ (some 51) rfl rfl Try.func8 (by kernel_rfl) rfl #[.string t168] rfl (by (try simp only [List.map_toArray, List.map_cons, List.map_nil]); first | done | rfl | (simp only [List.length_drop, List.length_take]; rfl)) ?_; (with_reducible refine (code_Op.calls kj8 t168 t169 t170 _ A26.out).mono ?_); rintro e w51 ⟨rfl, hb⟩; refine ⟨_, rfl, ?_⟩; have n0_ := Aside0.mk (below_step (by repeat (first | (with_reducible first | exact HB.out | apply below_alloc | apply pw_below_drewN | apply below_drew1) | exact HB.out)) hb); clear HB; have HB := n0_; clear n0_; (try clear hb); (try clear hb2); (try clear hk); (try clear hi)) | (go_at_call 10; (with_reducible refine (code_Name.calls a0 t173 _ A48.out).mono ?_); rintro e w52 ⟨rfl, hb⟩; have n0_ := Aside0.mk (below_step (by repeat (first | (with_reducible first | exact HB.out | apply below_alloc | apply pw_below_drewN | apply below_drew1) | exact HB.out)) hb); clear HB; have HB := n0_; clear n0_; (try clear hb); (try clear hb2); (try clear hk); (try clear hi)))
                go_ret
                exact ⟨by first | rfl | (simp [errW_none, errW_some] <;> rfl) | (simp [*, errW_none, errW_some] <;> rfl), by repeat (first | (with_reducible first | exact HB.out | apply below_alloc | apply pw_below_drewN | apply below_drew1) | exact HB.out)⟩
              · rw [if_neg c49] at H
                have c49b0 : (t173.toList == ([] : List UInt8)) = false := beq_eq_false_iff_ne.mpr c49
                have c49b1 : (t173.toList != ([] : List UInt8)) = true := bne_iff_ne.mpr c49
                by_cases c53 : t170 = true
                · subst c53
                  have H1 : (some (t169 == a0)) = some r := by rw [if_pos rfl] at H; exact H
                  clear H
                  have H := H1
                  clear H1
                  obtain rfl := Option.some.inj H
                  go_wp2_with (first | ((with_reducible refine gate_callee (f := 10) rfl ?_); refine goesL_ (some 50) rfl rfl Try.func10 (by kernel_rfl) rfl #[.int .i64 a0] rfl (by (try simp only [List.map_toArray, List.map_cons, List.map_nil]); first | done | rfl | (simp only [List.length_drop, List.length_take]; rfl)) ?_; (with_reducible refine (code_Name.calls a0 t168 _ A25.out).mono ?_); rintro e w54 ⟨rfl, hb⟩; refine ⟨_, rfl, ?_⟩; have n0_ := Aside0.mk (below_step (by repeat (first | (with_reducible first | exact HB.out | apply below_alloc | apply pw_below_drewN | apply below_drew1) | exact HB.out)) hb); clear HB; have HB := n0_; clear n0_; (try clear hb); (try clear hb2); (try clear hk); (try clear hi)) | ((with_reducible refine gate_callee (f := 8) rfl ?_); refine goesL_ (some 51) rfl rfl Try.func8 (by kernel_rfl) rfl #[.string t168] rfl (by (try simp only [List.map_toArray, List.map_cons, List.map_nil]); first | done | rfl | (simp only [List.length_drop, List.length_take]; rfl)) ?_; (with_reducible refine (code_Op.calls kj8 t168 t169 true _ A26.out).mono ?_); rintro e w55 ⟨rfl, hb⟩; refine ⟨_, rfl, ?_⟩; have n0_ := Aside0.mk (below_step (by repeat (first | (with_reducible first | exact HB.out | apply below_alloc | apply pw_below_drewN | apply below_drew1) | exact HB.out)) hb); clear HB; have HB := n0_; clear n0_; (try clear hb); (try clear hb2); (try clear hk); (try clear hi)) | (go_at_call 10; (with_reducible refine (code_Name.calls a0 t173 _ A48.out).mono ?_); rintro e w56 ⟨rfl, hb⟩; have n0_ := Aside0.mk (below_step (by repeat (first | (with_reducible first | exact HB.out | apply below_alloc | apply pw_below_drewN | apply below_drew1) | exact HB.out)) hb); clear HB; have HB := n0_; clear n0_; (try clear hb); (try clear hb2); (try clear hk); (try clear hi)))
                  go_ret
                  exact ⟨by first | rfl | (simp [errW_none, errW_some] <;> rfl) | (simp [*, errW_none, errW_some] <;> rfl), by repeat (first | (with_reducible first | exact HB.out | apply below_alloc | apply pw_below_drewN | apply below_drew1) | exact HB.out)⟩
                · replace c53 := Bool.eq_false_iff.mpr c53
                  subst c53
                  have H1 : (some false) = some r := by rw [if_neg (show ¬ (false = true) by decide)] at H; exact H
                  clear H
                  have H := H1
                  clear H1
                  obtain rfl := Option.some.inj H
                  go_wp2_with (first | ((with_reducible refine gate_callee (f := 10) rfl ?_); refine goesL_ (some 50) rfl rfl Try.func10 (by kernel_rfl) rfl #[.int .i64 a0] rfl (by (try simp only [List.map_toArray, List.map_cons, List.map_nil]); first | done | rfl | (simp only [List.length_drop, List.length_take]; rfl)) ?_; (with_reducible refine (code_Name.calls a0 t168 _ A25.out).mono ?_); rintro e w57 ⟨rfl, hb⟩; refine ⟨_, rfl, ?_⟩; have n0_ := Aside0.mk (below_step (by repeat (first | (with_reducible first | exact HB.out | apply below_alloc | apply pw_below_drewN | apply below_drew1) | exact HB.out)) hb); clear HB; have HB := n0_; clear n0_; (try clear hb); (try clear hb2); (try clear hk); (try clear hi)) | ((with_reducible refine gate_callee (f := 8) rfl ?_); refine goesL_ (some 51) rfl rfl Try.func8 (by kernel_rfl) rfl #[.string t168] rfl (by (try simp only [List.map_toArray, List.map_cons, List.map_nil]); first | done | rfl | (simp only [List.length_drop, List.length_take]; rfl)) ?_; (with_reducible refine (code_Op.calls kj8 t168 t169 false _ A26.out).mono ?_); rintro e w58 ⟨rfl, hb⟩; refine ⟨_, rfl, ?_⟩; have n0_ := Aside0.mk (below_step (by repeat (first | (with_reducible first | exact HB.out | apply below_alloc | apply pw_below_drewN | apply below_drew1) | exact HB.out)) hb); clear HB; have HB := n0_; clear n0_; (try clear hb); (try clear hb2); (try clear hk); (try clear hi)) | (go_at_call 10; (with_reducible refine (code_Name.calls a0 t173 _ A48.out).mono ?_); rintro e w59 ⟨rfl, hb⟩; have n0_ := Aside0.mk (below_step (by repeat (first | (with_reducible first | exact HB.out | apply below_alloc | apply pw_below_drewN | apply below_drew1) | exact HB.out)) hb); clear HB; have HB := n0_; clear n0_; (try clear hb); (try clear hb2); (try clear hk); (try clear hi)))
                  go_ret
                  exact ⟨by first | rfl | (simp [errW_none, errW_some] <;> rfl) | (simp [*, errW_none, errW_some] <;> rfl), by repeat (first | (with_reducible first | exact HB.out | apply below_alloc | apply pw_below_drewN | apply below_drew1) | exact HB.out)⟩
  · replace c4 := Bool.eq_false_iff.mpr c4
    subst c4
    have H1 : (some false) = some r := by rw [if_neg (show ¬ (false = true) by decide)] at H; exact H
    clear H
    have H := H1
    clear H1
    obtain rfl := Option.some.inj H
    go_enter Try.func3, Try.ntmps3
    go_wp2_with (first | ((with_reducible refine gate_callee (f := 7) rfl ?_); refine goesL_ (some 11) rfl rfl Try.func7 (by kernel_rfl) rfl #[] rfl (by (try simp only [List.map_toArray, List.map_cons, List.map_nil]); first | done | rfl | (simp only [List.length_drop, List.length_take]; rfl)) ?_; (with_reducible refine (backreachlaw02_awake.calls k  false _ A3.out).mono ?_); rintro e w60 ⟨rfl, hb⟩; refine ⟨_, rfl, ?_⟩; have n0_ := Aside0.mk (below_step (by repeat (first | (with_reducible first | exact HB.out | apply below_alloc | apply pw_below_drewN | apply below_drew1) | exact HB.out)) hb); clear HB; have HB := n0_; clear n0_; (try clear hb); (try clear hb2); (try clear hk); (try clear hi)))
    go_ret
    exact ⟨by first | rfl | (simp [errW_none, errW_some] <;> rfl) | (simp [*, errW_none, errW_some] <;> rfl), by repeat (first | (with_reducible first | exact HB.out | apply below_alloc | apply pw_below_drewN | apply below_drew1) | exact HB.out)⟩

/-- THE ONE PURE STATEMENT of backreachlaw02_CodeNames: yours. -/
def backreachlaw02_CodeNames.Pure : Prop := ∀ (a0 : Int) (a1 : ByteArray), (Lit.int .i64 a0).wf = true → a1.size ≤ 140737488351232 → ∃ k, backreachlaw02_CodeNames.f k a0 a1 = some true
theorem backreachlaw02_CodeNames.walk (P : backreachlaw02_CodeNames.Pure) (a0 : Int) (a1 : ByteArray) (w : World) (w0 : (Lit.int .i64 a0).wf = true) (w1 : a1.size ≤ 140737488351232) :
    Calls Try.prog 3 #[.int .i64 a0, .string a1] w fun e w' => e = .returned (.bool true) ∧ Below w.heap.size w w' := by
  obtain ⟨k, h⟩ := P a0 a1 w0 w1
  refine (backreachlaw02_CodeNames.calls k a0 a1 true w h).mono ?_
  rintro e w' ⟨rfl, hd⟩
  exact ⟨rfl, hd⟩

end Go.Proofs.Ytmgfmabmliphfaa.PCodeNames
