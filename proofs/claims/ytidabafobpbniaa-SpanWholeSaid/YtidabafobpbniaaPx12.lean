/- What Go functions compute, and their walks: written by a program of this session (a turned copy of the kit's print) out of the translation. -/
import Derived.Test.YtidabafobpbniaaPx0
import Derived.Test.YtidabafobpbniaaPx1
import Derived.Test.YtidabafobpbniaaPx4
import Derived.Test.YtidabafobpbniaaPx11
namespace Go.Proofs.Ytidabafobpbniaa.P
open Go.RowKit Go.Proofs.YtidabafobpbniaaW.PrintWords Go.Proofs.YtidabafobpbniaaW.PrintLast Go.Proofs.YtidabafobpbniaaW.PrintMore
attribute [local go_sem] max2_int min2_int max_two min_two max_three min_three max_four min_four   -- for this text's walks alone
set_option linter.unusedVariables false
set_option linter.unusedSimpArgs false

attribute [local go_sem high] eqA24
/-! ### backreachlaw11_awake: function 8 -/
def backreachlaw11_awake.f (k : Nat)  : Option (Bool) := (span_Apply.f k 8 8 200 210 50 60).bind fun bt172 => (if (bt172.1 == 0 && (bt172.2 == 255)) = true then ((span_Apply.f k 8 8 250 255 10 10).bind fun bt174 => (if (bt174.1 == 4 && (bt174.2 == 9)) = true then ((span_Has.f 8 3 5 260).bind fun t176 => (some t176)) else (some false))) else (some false))
theorem backreachlaw11_awake.mono : ∀ k, LeO (backreachlaw11_awake.f k ) (backreachlaw11_awake.f (k + 1) ) := by
  intro  k
  unfold backreachlaw11_awake.f
  repeat' first
      | (with_reducible exact span_Apply.mono _ _ _ _ _ _ _)
      | (with_reducible exact LeO.refl _)
      | (with_reducible exact LeO.none _)
      | (with_reducible refine LeO.ite ?_ ?_)
      | (with_reducible refine LeO.bind ?_ (fun _ => ?_))
      | exact span_Apply.mono _ _ _ _ _ _ _
      | exact LeO.none _
      | refine LeO.ite ?_ ?_
      | refine LeO.bind ?_ (fun _ => ?_)
set_option maxHeartbeats 8000000 in
set_option maxRecDepth 100000 in
theorem backreachlaw11_awake.calls (k : Nat)  (r : Bool) (w : World) (h : backreachlaw11_awake.f k  = some r) :
    Calls Try.prog 8 #[] w fun e w' => e = .returned (.bool r) ∧ Below w.heap.size w w' := by
  have hu24 := Try.underlying24
  have HB := Aside0.mk (Below.refl w.heap.size w)
  have H : ((span_Apply.f k 8 8 200 210 50 60).bind fun bt172 => (if (bt172.1 == 0 && (bt172.2 == 255)) = true then ((span_Apply.f k 8 8 250 255 10 10).bind fun bt174 => (if (bt174.1 == 4 && (bt174.2 == 9)) = true then ((span_Has.f 8 3 5 260).bind fun t176 => (some t176)) else (some false))) else (some false))) = some r := h
  clear h
  replace H := Option.bind_eq_some_iff.mp H
  obtain ⟨⟨t172, t173⟩, A10, H⟩ := H
  replace H : (if (t172 == 0 && (t173 == 255)) = true then ((span_Apply.f k 8 8 250 255 10 10).bind fun bt174 => (if (bt174.1 == 4 && (bt174.2 == 9)) = true then ((span_Has.f 8 3 5 260).bind fun t176 => (some t176)) else (some false))) else (some false)) = some r := H
  have A1 := Aside0.mk A10
  clear A10
  by_cases c2 : (t172 == 0 && (t173 == 255)) = true
  · rw [if_pos c2] at H
    have c2b0 : (t172 == 0 && (t173 == 255)) = true := c2
    (try (have c2b1 : decide (t172 = 0 && (t173 == 255)) = true := by simpa using c2))
    (try (have c2b2 : (t172 == 0 && (t173 == 255)) = true := by simpa using c2))
    clear c2
    replace H := Option.bind_eq_some_iff.mp H
    obtain ⟨⟨t174, t175⟩, A30, H⟩ := H
    replace H : (if (t174 == 4 && (t175 == 9)) = true then ((span_Has.f 8 3 5 260).bind fun t176 => (some t176)) else (some false)) = some r := H
    have A3 := Aside0.mk A30
    clear A30
    by_cases c4 : (t174 == 4 && (t175 == 9)) = true
    · rw [if_pos c4] at H
      have c4b0 : (t174 == 4 && (t175 == 9)) = true := c4
      (try (have c4b1 : decide (t174 = 4 && (t175 == 9)) = true := by simpa using c4))
      (try (have c4b2 : (t174 == 4 && (t175 == 9)) = true := by simpa using c4))
      clear c4
      replace H := Option.bind_eq_some_iff.mp H
      obtain ⟨t176, A50, H⟩ := H
      replace H : (some t176) = some r := H
      have A5 := Aside0.mk A50
      clear A50
      obtain rfl := Option.some.inj H
      go_enter Try.func8, Try.ntmps8
      go_wp2_with (first | ((with_reducible refine gate_callee (f := 10) rfl ?_); refine goesL_ (some 3) rfl rfl Try.func10 (by kernel_rfl) rfl #[.int .i64 8, .int .i64 8, .agg #[.int .u64 200, .int .u64 210], .agg #[.int .u64 50, .int .u64 60]] rfl (by (try simp only [List.map_toArray, List.map_cons, List.map_nil]); first | done | rfl | (simp only [List.length_drop, List.length_take]; rfl)) ?_; (with_reducible refine (span_Apply.calls k 8 8 200 210 50 60 t172 t173 _ A1.out).mono ?_); rintro e w6 ⟨rfl, hb⟩; refine ⟨_, rfl, ?_⟩; have n0_ := Aside0.mk (below_step (by repeat (first | (with_reducible first | exact HB.out | apply below_alloc | apply pw_below_drewN | apply below_drew1) | exact HB.out)) hb); clear HB; have HB := n0_; clear n0_; (try clear hb); (try clear hb2); (try clear hk); (try clear hi)) | (go_at_call 10; (with_reducible refine (span_Apply.calls k 8 8 250 255 10 10 t174 t175 _ A3.out).mono ?_); rintro e w7 ⟨rfl, hb⟩; have n0_ := Aside0.mk (below_step (by repeat (first | (with_reducible first | exact HB.out | apply below_alloc | apply pw_below_drewN | apply below_drew1) | exact HB.out)) hb); clear HB; have HB := n0_; clear n0_; (try clear hb); (try clear hb2); (try clear hk); (try clear hi)) | (go_at_call 9; (with_reducible refine (span_Has.calls 8 3 5 260 t176 _ A5.out).mono ?_); rintro e w8 ⟨rfl, hb⟩; have n0_ := Aside0.mk (below_step (by repeat (first | (with_reducible first | exact HB.out | apply below_alloc | apply pw_below_drewN | apply below_drew1) | exact HB.out)) hb); clear HB; have HB := n0_; clear n0_; (try clear hb); (try clear hb2); (try clear hk); (try clear hi)))
      go_ret
      exact ⟨by first | rfl | (simp [errW_none, errW_some] <;> rfl) | (simp [*, errW_none, errW_some] <;> rfl), by repeat (first | (with_reducible first | exact HB.out | apply below_alloc | apply pw_below_drewN | apply below_drew1) | exact HB.out)⟩
    · rw [if_neg c4] at H
      have c4b0 : (t174 == 4 && (t175 == 9)) = false := by simpa using c4
      (try (have c4b1 : decide (t174 = 4 && (t175 == 9)) = false := by simpa using c4))
      (try (have c4b2 : (t174 == 4 && (t175 == 9)) = false := by simpa using c4))
      (try (have c4b3 : ¬ (t174 = 4 && (t175 == 9)) := by simpa using c4))
      clear c4
      obtain rfl := Option.some.inj H
      go_enter Try.func8, Try.ntmps8
      go_wp2_with (first | ((with_reducible refine gate_callee (f := 10) rfl ?_); refine goesL_ (some 3) rfl rfl Try.func10 (by kernel_rfl) rfl #[.int .i64 8, .int .i64 8, .agg #[.int .u64 200, .int .u64 210], .agg #[.int .u64 50, .int .u64 60]] rfl (by (try simp only [List.map_toArray, List.map_cons, List.map_nil]); first | done | rfl | (simp only [List.length_drop, List.length_take]; rfl)) ?_; (with_reducible refine (span_Apply.calls k 8 8 200 210 50 60 t172 t173 _ A1.out).mono ?_); rintro e w9 ⟨rfl, hb⟩; refine ⟨_, rfl, ?_⟩; have n0_ := Aside0.mk (below_step (by repeat (first | (with_reducible first | exact HB.out | apply below_alloc | apply pw_below_drewN | apply below_drew1) | exact HB.out)) hb); clear HB; have HB := n0_; clear n0_; (try clear hb); (try clear hb2); (try clear hk); (try clear hi)) | (go_at_call 10; (with_reducible refine (span_Apply.calls k 8 8 250 255 10 10 t174 t175 _ A3.out).mono ?_); rintro e w10 ⟨rfl, hb⟩; have n0_ := Aside0.mk (below_step (by repeat (first | (with_reducible first | exact HB.out | apply below_alloc | apply pw_below_drewN | apply below_drew1) | exact HB.out)) hb); clear HB; have HB := n0_; clear n0_; (try clear hb); (try clear hb2); (try clear hk); (try clear hi)))
      go_ret
      exact ⟨by first | rfl | (simp [errW_none, errW_some] <;> rfl) | (simp [*, errW_none, errW_some] <;> rfl), by repeat (first | (with_reducible first | exact HB.out | apply below_alloc | apply pw_below_drewN | apply below_drew1) | exact HB.out)⟩
  · rw [if_neg c2] at H
    have c2b0 : (t172 == 0 && (t173 == 255)) = false := by simpa using c2
    (try (have c2b1 : decide (t172 = 0 && (t173 == 255)) = false := by simpa using c2))
    (try (have c2b2 : (t172 == 0 && (t173 == 255)) = false := by simpa using c2))
    (try (have c2b3 : ¬ (t172 = 0 && (t173 == 255)) := by simpa using c2))
    clear c2
    obtain rfl := Option.some.inj H
    go_enter Try.func8, Try.ntmps8
    go_wp2_with (first | ((with_reducible refine gate_callee (f := 10) rfl ?_); refine goesL_ (some 3) rfl rfl Try.func10 (by kernel_rfl) rfl #[.int .i64 8, .int .i64 8, .agg #[.int .u64 200, .int .u64 210], .agg #[.int .u64 50, .int .u64 60]] rfl (by (try simp only [List.map_toArray, List.map_cons, List.map_nil]); first | done | rfl | (simp only [List.length_drop, List.length_take]; rfl)) ?_; (with_reducible refine (span_Apply.calls k 8 8 200 210 50 60 t172 t173 _ A1.out).mono ?_); rintro e w11 ⟨rfl, hb⟩; refine ⟨_, rfl, ?_⟩; have n0_ := Aside0.mk (below_step (by repeat (first | (with_reducible first | exact HB.out | apply below_alloc | apply pw_below_drewN | apply below_drew1) | exact HB.out)) hb); clear HB; have HB := n0_; clear n0_; (try clear hb); (try clear hb2); (try clear hk); (try clear hi)))
    go_ret
    exact ⟨by first | rfl | (simp [errW_none, errW_some] <;> rfl) | (simp [*, errW_none, errW_some] <;> rfl), by repeat (first | (with_reducible first | exact HB.out | apply below_alloc | apply pw_below_drewN | apply below_drew1) | exact HB.out)⟩

end Go.Proofs.Ytidabafobpbniaa.P
