/- What Go functions compute, and their walks: written by a program of this session (a turned copy of the kit's print) out of the translation. -/
import Derived.Test.YtidabafobpbniaaPx0
import Derived.Test.YtidabafobpbniaaGw
namespace Go.Proofs.Ytidabafobpbniaa.P
open Go.RowKit Go.Proofs.YtidabafobpbniaaW.PrintWords Go.Proofs.YtidabafobpbniaaW.PrintLast Go.Proofs.YtidabafobpbniaaW.PrintMore
attribute [local go_sem] max2_int min2_int max_two min_two max_three min_three max_four min_four   -- for this text's walks alone
set_option linter.unusedVariables false
set_option linter.unusedSimpArgs false

/-! ### span_down: function 76 -/
def span_down.f (a0 : Int) (a1 : Int) (a2 : Int) : Option (Int) := (word_Apply.f 17 a0 a1 a2).bind fun t139 => (some t139)
set_option maxHeartbeats 8000000 in
set_option maxRecDepth 100000 in
theorem span_down.calls (a0 : Int) (a1 : Int) (a2 : Int) (r : Int) (w : World) (h : span_down.f a0 a1 a2 = some r) :
    Calls Try.prog 76 #[.int .i64 a0, .int .u64 a1, .int .u64 a2] w fun e w' => e = .returned (.int .u64 r) ∧ Below w.heap.size w w' := by
  have HB := Aside0.mk (Below.refl w.heap.size w)
  have H : ((word_Apply.f 17 a0 a1 a2).bind fun t139 => (some t139)) = some r := h
  clear h
  replace H := Option.bind_eq_some_iff.mp H
  obtain ⟨t139, A40, H⟩ := H
  replace H : (some t139) = some r := H
  have A4 := Aside0.mk A40
  clear A40
  obtain rfl := Option.some.inj H
  go_enter Try.func76, Try.ntmps76
  go_wp2_with (first | ((with_reducible refine gate_callee (f := 11) rfl ?_); refine goesL_ (some 10) rfl rfl Try.func11 (by kernel_rfl) rfl #[.int .i64 17, .int .i64 a0, .int .u64 a1, .int .u64 a2] rfl (by (try simp only [List.map_toArray, List.map_cons, List.map_nil]); first | done | rfl | (simp only [List.length_drop, List.length_take]; rfl)) ?_; (with_reducible refine (word_Apply.calls 17 a0 a1 a2 t139 _ A4.out).mono ?_); rintro e w5 ⟨rfl, hb⟩; refine ⟨_, rfl, ?_⟩; have n0_ := Aside0.mk (below_step (by repeat (first | (with_reducible first | exact HB.out | apply below_alloc | apply pw_below_drewN | apply below_drew1) | exact HB.out)) hb); clear HB; have HB := n0_; clear n0_; (try clear hb); (try clear hb2); (try clear hk); (try clear hi)))
  go_ret
  exact ⟨by first | rfl | (simp [errW_none, errW_some] <;> rfl) | (simp [*, errW_none, errW_some] <;> rfl), by repeat (first | (with_reducible first | exact HB.out | apply below_alloc | apply pw_below_drewN | apply below_drew1) | exact HB.out)⟩

end Go.Proofs.Ytidabafobpbniaa.P
