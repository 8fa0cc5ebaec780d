/- What a Go function computes on most of its ways, and the walk: written by a program of this session (a turned copy of the kit's print). -/
import Derived.Test.YtidabafobpbniaaGq
import Derived.Test.YtidabafobpbniaaV9
import Derived.Test.YtidabafobpbniaaPx0
import Derived.Test.YtidabafobpbniaaPx1
import Derived.Test.YtidabafobpbniaaPx12
import Derived.Test.YtidabafobpbniaaPx11
import Derived.Test.YtidabafobpbniaaPx14
namespace Go.Proofs.Ytidabafobpbniaa.P
open Go.RowKit Go.Proofs.YtidabafobpbniaaW.PrintWords Go.Proofs.YtidabafobpbniaaW.PrintLast Go.Proofs.YtidabafobpbniaaW.PrintMore
attribute [local go_sem] max2_int min2_int max_two min_two max_three min_three max_four min_four   -- for this text's walks alone
set_option linter.unusedVariables false
set_option linter.unusedSimpArgs false
abbrev backreachlaw11_SpanGrows.M0 : Array Bool := #[false, false, false, false, false, false, false, false, false, false, false, false, false, false]
abbrev backreachlaw11_SpanGrows.M1 : Array Bool := #[false, false, false, false, false, false, false, false, false, false, false, false]
abbrev backreachlaw11_SpanGrows.M2 : Array Bool := #[true, false, false, false, false, false, false, false, false, false, false, false, false, false]
abbrev backreachlaw11_SpanGrows.M3 : Array Bool := #[true, false, false, false, false, false, false, false, false, false, false, false]
abbrev backreachlaw11_SpanGrows.M4 : Array Bool := #[true, false, false, false, true, false, false, false, false, false, false, false]
abbrev backreachlaw11_SpanGrows.M5 : Array Bool := #[true, true, false, false, false, false, false, false, false, false, false, false, false, false]
abbrev backreachlaw11_SpanGrows.M6 : Array Bool := #[true, true, false, false, false, true, false, false, false, false, false, false, false, false]
abbrev backreachlaw11_SpanGrows.M7 : Array Bool := #[true, true, false, false, false, true, true, false, false, false, false, false, false, false]
abbrev backreachlaw11_SpanGrows.M8 : Array Bool := #[true, true, false, false, true, false, false, false, false, false, false, false]
abbrev backreachlaw11_SpanGrows.M9 : Array Bool := #[true, true, true, false, false, true, true, false, false, false, false, false, false, false]
abbrev backreachlaw11_SpanGrows.M10 : Array Bool := #[true, true, true, false, true, false, false, false, false, false, false, false]
abbrev backreachlaw11_SpanGrows.M11 : Array Bool := #[true, true, true, false, true, true, false, false, false, false, false, false]
abbrev backreachlaw11_SpanGrows.M12 : Array Bool := #[true, true, true, false, true, true, true, false, false, false, false, false]
abbrev backreachlaw11_SpanGrows.M13 : Array Bool := #[true, true, true, false, true, true, true, false, false, true, false, false]
abbrev backreachlaw11_SpanGrows.M14 : Array Bool := #[true, true, true, false, true, true, true, false, true, false, false, false]
abbrev backreachlaw11_SpanGrows.M15 : Array Bool := #[true, true, true, false, true, true, true, false, true, true, false, false]
abbrev backreachlaw11_SpanGrows.M16 : Array Bool := #[true, true, true, true, false, true, true, false, false, false, false, false, false, false]
abbrev backreachlaw11_SpanGrows.M17 : Array Bool := #[true, true, true, true, false, true, true, true, false, false, false, false, false, false]
abbrev backreachlaw11_SpanGrows.M18 : Array Bool := #[true, true, true, true, false, true, true, true, true, false, false, false, false, false]
abbrev backreachlaw11_SpanGrows.M19 : Array Bool := #[true, true, true, true, false, true, true, true, true, false, false, true, false, false]
abbrev backreachlaw11_SpanGrows.M20 : Array Bool := #[true, true, true, true, false, true, true, true, true, false, true, false, false, false]
abbrev backreachlaw11_SpanGrows.M21 : Array Bool := #[true, true, true, true, false, true, true, true, true, false, true, true, false, false]
abbrev backreachlaw11_SpanGrows.M22 : Array Bool := #[true, true, true, true, true, true, true, false, false, false, false, false]
abbrev backreachlaw11_SpanGrows.M23 : Array Bool := #[true, true, true, true, true, true, true, false, false, true, false, false]
abbrev backreachlaw11_SpanGrows.M24 : Array Bool := #[true, true, true, true, true, true, true, false, true, false, false, false]
abbrev backreachlaw11_SpanGrows.M25 : Array Bool := #[true, true, true, true, true, true, true, false, true, true, false, false]
abbrev backreachlaw11_SpanGrows.M26 : Array Bool := #[true, true, true, true, true, true, true, true, false, false, false, false]
abbrev backreachlaw11_SpanGrows.M27 : Array Bool := #[true, true, true, true, true, true, true, true, false, true, false, false]
abbrev backreachlaw11_SpanGrows.M28 : Array Bool := #[true, true, true, true, true, true, true, true, true, false, false, false, false, false]
abbrev backreachlaw11_SpanGrows.M29 : Array Bool := #[true, true, true, true, true, true, true, true, true, false, false, false]
abbrev backreachlaw11_SpanGrows.M30 : Array Bool := #[true, true, true, true, true, true, true, true, true, false, false, true, false, false]
abbrev backreachlaw11_SpanGrows.M31 : Array Bool := #[true, true, true, true, true, true, true, true, true, false, true, false, false, false]
abbrev backreachlaw11_SpanGrows.M32 : Array Bool := #[true, true, true, true, true, true, true, true, true, false, true, true, false, false]
abbrev backreachlaw11_SpanGrows.M33 : Array Bool := #[true, true, true, true, true, true, true, true, true, true, false, false, false, false]
abbrev backreachlaw11_SpanGrows.M34 : Array Bool := #[true, true, true, true, true, true, true, true, true, true, false, false]
abbrev backreachlaw11_SpanGrows.M35 : Array Bool := #[true, true, true, true, true, true, true, true, true, true, false, true, false, false]
abbrev backreachlaw11_SpanGrows.M36 : Array Bool := #[true, true, true, true, true, true, true, true, true, true, true, false, false, false]
abbrev backreachlaw11_SpanGrows.M37 : Array Bool := #[true, true, true, true, true, true, true, true, true, true, true, false]
abbrev backreachlaw11_SpanGrows.M38 : Array Bool := #[true, true, true, true, true, true, true, true, true, true, true, true, false, false]
abbrev backreachlaw11_SpanGrows.M39 : Array Bool := #[true, true, true, true, true, true, true, true, true, true, true, true, true, false]
abbrev backreachlaw11_SpanGrows.M40 : Array Bool := #[true, true, true, true, true, true, true, true, true, true, true, true, true, true]
abbrev backreachlaw11_SpanGrows.M41 : Array Bool := #[true, true, true, true, true, true, true, true, true, true, true, true]
/-! ### backreachlaw11_SpanGrows: function 5 -/
def backreachlaw11_SpanGrows.f (k : Nat) (a0 : Int) (a1 : Int) (a2_0 : Int) (a2_1 : Int) (a3_0 : Int) (a3_1 : Int) (a4_0 : Int) (a4_1 : Int) (a5_0 : Int) (a5_1 : Int) : Option (Bool) := (backreachlaw11_awake.f k).bind fun t236 => (if t236 = true then ((span_Join.f a1 a2_0 a2_1 a4_0 a4_1).bind fun bt237 => ((span_Join.f a1 a3_0 a3_1 a5_0 a5_1).bind fun bt239 => ((span_Apply.f k a0 a1 a2_0 a2_1 a3_0 a3_1).bind fun bt243 => ((span_Apply.f k a0 a1 bt237.1 bt237.2 bt239.1 bt239.2).bind fun bt245 => (if bt245.1 ≤ bt243.1 then (some (decide (bt243.2 ≤ bt245.2))) else (some false)))))) else (some false))
theorem backreachlaw11_SpanGrows.mono : ∀ a0 a1 a2 a3 a4 a5 a6 a7 a8 a9 k, LeO (backreachlaw11_SpanGrows.f k a0 a1 a2 a3 a4 a5 a6 a7 a8 a9) (backreachlaw11_SpanGrows.f (k + 1) a0 a1 a2 a3 a4 a5 a6 a7 a8 a9) := by
 intro a0 a1 a2 a3 a4 a5 a6 a7 a8 a9 k
 unfold backreachlaw11_SpanGrows.f
 repeat' first
   | (with_reducible exact backreachlaw11_awake.mono _)
   | (with_reducible exact span_Apply.mono _ _ _ _ _ _ _)
   | (with_reducible exact LeO.refl _)
   | (with_reducible exact LeO.none _)
   | (with_reducible refine LeO.ite ?_ ?_)
   | (with_reducible refine LeO.bind ?_ (fun _ => ?_))
   | exact backreachlaw11_awake.mono _
   | exact span_Apply.mono _ _ _ _ _ _ _
   | exact LeO.none _
   | refine LeO.ite ?_ ?_
   | refine LeO.bind ?_ (fun _ => ?_)
def backreachlaw11_SpanGrows.T3 : Bool × List (List Nat × List Nat) := (true, [([], []), ([], []), ([], []), ([0, 1, 2], [0, 1, 2]), ([], []), ([], []), ([], []), ([4, 5, 6, 3], [4, 5, 6]), ([], []), ([], []), ([8, 3, 7, 0, 1, 2, 3, 8, 9], [3, 8]), ([9, 7, 10, 0, 1, 2, 3, 4, 5, 6, 7, 8, 9, 10], [7, 9])])
def backreachlaw11_SpanGrows.B3 : List Nat := [0, 0, 0, 7, 0, 0, 0, 127, 0, 0, 1023, 2047]
theorem backreachlaw11_SpanGrows.tab3 : rtab .any (opsOf Try.f5 3) = backreachlaw11_SpanGrows.T3 := by kernel_rfl
theorem backreachlaw11_SpanGrows.bits3 : waitsOk backreachlaw11_SpanGrows.T3.2 backreachlaw11_SpanGrows.B3 = true := by kernel_rfl
def backreachlaw11_SpanGrows.T4 : Bool × List (List Nat × List Nat) := (true, [([], []), ([], []), ([], []), ([], []), ([0, 1, 2, 3], [0, 1, 2, 3]), ([], []), ([], []), ([], []), ([], []), ([5, 6, 7, 8, 4], [5, 6, 7, 8]), ([], []), ([], []), ([10, 4, 9, 0, 1, 2, 3, 4, 10, 11], [4, 10]), ([11, 9, 12, 0, 1, 2, 3, 4, 5, 6, 7, 8, 9, 10, 11, 12], [9, 11])])
def backreachlaw11_SpanGrows.B4 : List Nat := [0, 0, 0, 0, 15, 0, 0, 0, 0, 511, 0, 0, 4095, 8191]
theorem backreachlaw11_SpanGrows.tab4 : rtab .any (opsOf Try.f5 4) = backreachlaw11_SpanGrows.T4 := by kernel_rfl
theorem backreachlaw11_SpanGrows.bits4 : waitsOk backreachlaw11_SpanGrows.T4.2 backreachlaw11_SpanGrows.B4 = true := by kernel_rfl
set_option maxHeartbeats 8000000 in
set_option maxRecDepth 100000 in
theorem backreachlaw11_SpanGrows.calls (k : Nat) (a0 : Int) (a1 : Int) (a2_0 : Int) (a2_1 : Int) (a3_0 : Int) (a3_1 : Int) (a4_0 : Int) (a4_1 : Int) (a5_0 : Int) (a5_1 : Int) (r : Bool) (w : World) (hr0 : r = true) (h : backreachlaw11_SpanGrows.f k a0 a1 a2_0 a2_1 a3_0 a3_1 a4_0 a4_1 a5_0 a5_1 = some r) :
  Calls Try.prog 5 #[.int .i64 a0, .int .i64 a1, .agg #[.int .u64 a2_0, .int .u64 a2_1], .agg #[.int .u64 a3_0, .int .u64 a3_1], .agg #[.int .u64 a4_0, .int .u64 a4_1], .agg #[.int .u64 a5_0, .int .u64 a5_1]] w fun e w' => e = .returned (.bool r) ∧ Below w.heap.size w w' := by
 have hu24 := Try.underlying24
 have HB := Aside0.mk (Below.refl w.heap.size w)
 have H : ((backreachlaw11_awake.f k).bind fun t236 => (if t236 = true then ((span_Join.f a1 a2_0 a2_1 a4_0 a4_1).bind fun bt237 => ((span_Join.f a1 a3_0 a3_1 a5_0 a5_1).bind fun bt239 => ((span_Apply.f k a0 a1 a2_0 a2_1 a3_0 a3_1).bind fun bt243 => ((span_Apply.f k a0 a1 bt237.1 bt237.2 bt239.1 bt239.2).bind fun bt245 => (if bt245.1 ≤ bt243.1 then (some (decide (bt243.2 ≤ bt245.2))) else (some false)))))) else (some false))) = some r := h
 clear h
 have hr_ := Aside0.mk hr0
 clear hr0
 replace H := Option.bind_eq_some_iff.mp H
 obtain ⟨t236, A70, H⟩ := H
 replace H : (if t236 = true then ((span_Join.f a1 a2_0 a2_1 a4_0 a4_1).bind fun bt237 => ((span_Join.f a1 a3_0 a3_1 a5_0 a5_1).bind fun bt239 => ((span_Apply.f k a0 a1 a2_0 a2_1 a3_0 a3_1).bind fun bt243 => ((span_Apply.f k a0 a1 bt237.1 bt237.2 bt239.1 bt239.2).bind fun bt245 => (if bt245.1 ≤ bt243.1 then (some (decide (bt243.2 ≤ bt245.2))) else (some false)))))) else (some false)) = some r := H
 have A7 := Aside0.mk A70
 clear A70
 by_cases c8 : t236 = true
 ·
  subst c8
  have H1 : ((span_Join.f a1 a2_0 a2_1 a4_0 a4_1).bind fun bt237 => ((span_Join.f a1 a3_0 a3_1 a5_0 a5_1).bind fun bt239 => ((span_Apply.f k a0 a1 a2_0 a2_1 a3_0 a3_1).bind fun bt243 => ((span_Apply.f k a0 a1 bt237.1 bt237.2 bt239.1 bt239.2).bind fun bt245 => (if bt245.1 ≤ bt243.1 then (some (decide (bt243.2 ≤ bt245.2))) else (some false)))))) = some r := by rw [if_pos rfl] at H; exact H
  clear H
  have H := H1
  clear H1
  replace H := Option.bind_eq_some_iff.mp H
  obtain ⟨⟨t237, t238⟩, A90, H⟩ := H
  replace H : ((span_Join.f a1 a3_0 a3_1 a5_0 a5_1).bind fun bt239 => ((span_Apply.f k a0 a1 a2_0 a2_1 a3_0 a3_1).bind fun bt243 => ((span_Apply.f k a0 a1 t237 t238 bt239.1 bt239.2).bind fun bt245 => (if bt245.1 ≤ bt243.1 then (some (decide (bt243.2 ≤ bt245.2))) else (some false))))) = some r := H
  have A9 := Aside0.mk A90
  clear A90
  replace H := Option.bind_eq_some_iff.mp H
  obtain ⟨⟨t239, t240⟩, A100, H⟩ := H
  replace H : ((span_Apply.f k a0 a1 a2_0 a2_1 a3_0 a3_1).bind fun bt243 => ((span_Apply.f k a0 a1 t237 t238 t239 t240).bind fun bt245 => (if bt245.1 ≤ bt243.1 then (some (decide (bt243.2 ≤ bt245.2))) else (some false)))) = some r := H
  have A10 := Aside0.mk A100
  clear A100
  replace H := Option.bind_eq_some_iff.mp H
  obtain ⟨⟨t243, t244⟩, A110, H⟩ := H
  replace H : ((span_Apply.f k a0 a1 t237 t238 t239 t240).bind fun bt245 => (if bt245.1 ≤ t243 then (some (decide (t244 ≤ bt245.2))) else (some false))) = some r := H
  have A11 := Aside0.mk A110
  clear A110
  replace H := Option.bind_eq_some_iff.mp H
  obtain ⟨⟨t245, t246⟩, A120, H⟩ := H
  replace H : (if t245 ≤ t243 then (some (decide (t244 ≤ t246))) else (some false)) = some r := H
  have A12 := Aside0.mk A120
  clear A120
  by_cases c13 : t245 ≤ t243
  ·
   rw [if_pos c13] at H
   have c13b0 : decide (t245 ≤ t243) = true := decide_eq_true c13
   clear c13
   obtain rfl := Option.some.inj H
   go_enter Try.func5, Try.ntmps5
   try go_wp2_with (first | ((with_reducible refine gate_dst (N := 8) rfl ?_); refine box_event ?hg (N := 8) ?hd (cs := #[.int .u64 a2_0, .int .u64 a2_1]) (t := 24) ?hr ?_; (case hd => rfl); (case hg => rfl); (case hr => first | (go_simp; done) | (go_simp; rfl)); intro gb232 hg w14 hbox hb; have n0_ := Aside0.mk (below_step (by repeat (first | (with_reducible first | exact HB.out | apply below_alloc | apply pw_below_drewN | apply below_drew1) | exact HB.out)) hb); have n1_ := Aside0.mk (hbox); have n2_ := Aside0.mk ((by rw [hg]; exact (below_size (by repeat (first | (with_reducible first | exact HB.out | apply below_alloc | apply pw_below_drewN | apply below_drew1) | exact HB.out))) : w.heap.size ≤ gb232)); have n3_ := Aside0.mk ((by rw [hg]; exact (below_size (by repeat (first | (with_reducible first | exact HB.out | apply below_alloc | apply pw_below_drewN | apply below_drew1) | exact HB.out))) : w.heap.size ≤ gb232)); clear HB; have HB := n0_; have BK232 := n1_; have GW232 := n2_; have GE232 := n3_; clear n0_ n1_ n2_ n3_; clear hb hbox hg) | ((with_reducible refine gate_dst (N := 9) rfl ?_); refine box_event ?hg (N := 9) ?hd (cs := #[.int .u64 a3_0, .int .u64 a3_1]) (t := 24) ?hr ?_; (case hd => rfl); (case hg => rfl); (case hr => first | (go_simp; done) | (go_simp; rfl)); intro gb233 hg w15 hbox hb; have n0_ := Aside0.mk (bbq BK232 hb); have n1_ := Aside0.mk (below_step (by repeat (first | (with_reducible first | exact HB.out | apply below_alloc | apply pw_below_drewN | apply below_drew1 | refine below_set ?_ GE232.out) | exact HB.out)) hb); have n2_ := Aside0.mk (hbox); have n3_ := Aside0.mk ((by rw [hg]; exact (below_size (by repeat (first | (with_reducible first | exact HB.out | apply below_alloc | apply pw_below_drewN | apply below_drew1 | refine below_set ?_ GE232.out) | exact HB.out))) : w.heap.size ≤ gb233)); have n4_ := Aside0.mk ((by rw [hg]; exact (below_size (by repeat (first | (with_reducible first | exact HB.out | apply below_alloc | apply pw_below_drewN | apply below_drew1 | refine below_set ?_ GE232.out) | exact HB.out))) : w.heap.size ≤ gb233)); have n5_ := Aside0.mk ((nlq hg BK232 : gb232 ≠ gb233)); have n6_ := Aside0.mk ((ngq hg BK232 : gb233 ≠ gb232)); clear BK232; clear HB; have BK232 := n0_; have HB := n1_; have BK233 := n2_; have GW233 := n3_; have GE233 := n4_; have NB232_233 := n5_; have NB233_232 := n6_; clear n0_ n1_ n2_ n3_ n4_ n5_ n6_; clear hb hbox hg) | ((with_reducible refine gate_dst (N := 10) rfl ?_); refine box_event ?hg (N := 10) ?hd (cs := #[.int .u64 a4_0, .int .u64 a4_1]) (t := 24) ?hr ?_; (case hd => rfl); (case hg => rfl); (case hr => first | (go_simp; done) | (go_simp; rfl)); intro gb234 hg w16 hbox hb; have n0_ := Aside0.mk (bbq BK232 hb); have n1_ := Aside0.mk (bbq BK233 hb); have n2_ := Aside0.mk (below_step (by repeat (first | (with_reducible first | exact HB.out | apply below_alloc | apply pw_below_drewN | apply below_drew1 | refine below_set ?_ GE232.out | refine below_set ?_ GE233.out) | exact HB.out)) hb); have n3_ := Aside0.mk (hbox); have n4_ := Aside0.mk ((by rw [hg]; exact (below_size (by repeat (first | (with_reducible first | exact HB.out | apply below_alloc | apply pw_below_drewN | apply below_drew1 | refine below_set ?_ GE232.out | refine below_set ?_ GE233.out) | exact HB.out))) : w.heap.size ≤ gb234)); have n5_ := Aside0.mk ((by rw [hg]; exact (below_size (by repeat (first | (with_reducible first | exact HB.out | apply below_alloc | apply pw_below_drewN | apply below_drew1 | refine below_set ?_ GE232.out | refine below_set ?_ GE233.out) | exact HB.out))) : w.heap.size ≤ gb234)); have n6_ := Aside0.mk ((nlq hg BK232 : gb232 ≠ gb234)); have n7_ := Aside0.mk ((ngq hg BK232 : gb234 ≠ gb232)); have n8_ := Aside0.mk ((nlq hg BK233 : gb233 ≠ gb234)); have n9_ := Aside0.mk ((ngq hg BK233 : gb234 ≠ gb233)); clear BK232; clear BK233; clear HB; have BK232 := n0_; have BK233 := n1_; have HB := n2_; have BK234 := n3_; have GW234 := n4_; have GE234 := n5_; have NB232_234 := n6_; have NB234_232 := n7_; have NB233_234 := n8_; have NB234_233 := n9_; clear n0_ n1_ n2_ n3_ n4_ n5_ n6_ n7_ n8_ n9_; clear hb hbox hg) | ((with_reducible refine gate_dst (N := 11) rfl ?_); refine box_event ?hg (N := 11) ?hd (cs := #[.int .u64 a5_0, .int .u64 a5_1]) (t := 24) ?hr ?_; (case hd => rfl); (case hg => rfl); (case hr => first | (go_simp; done) | (go_simp; rfl)); intro gb235 hg w17 hbox hb; have n0_ := Aside0.mk (bbq BK232 hb); have n1_ := Aside0.mk (bbq BK233 hb); have n2_ := Aside0.mk (bbq BK234 hb); have n3_ := Aside0.mk (below_step (by repeat (first | (with_reducible first | exact HB.out | apply below_alloc | apply pw_below_drewN | apply below_drew1 | refine below_set ?_ GE232.out | refine below_set ?_ GE233.out | refine below_set ?_ GE234.out) | exact HB.out)) hb); have n4_ := Aside0.mk (hbox); have n5_ := Aside0.mk ((by rw [hg]; exact (below_size (by repeat (first | (with_reducible first | exact HB.out | apply below_alloc | apply pw_below_drewN | apply below_drew1 | refine below_set ?_ GE232.out | refine below_set ?_ GE233.out | refine below_set ?_ GE234.out) | exact HB.out))) : w.heap.size ≤ gb235)); have n6_ := Aside0.mk ((by rw [hg]; exact (below_size (by repeat (first | (with_reducible first | exact HB.out | apply below_alloc | apply pw_below_drewN | apply below_drew1 | refine below_set ?_ GE232.out | refine below_set ?_ GE233.out | refine below_set ?_ GE234.out) | exact HB.out))) : w.heap.size ≤ gb235)); have n7_ := Aside0.mk ((nlq hg BK232 : gb232 ≠ gb235)); have n8_ := Aside0.mk ((ngq hg BK232 : gb235 ≠ gb232)); have n9_ := Aside0.mk ((nlq hg BK233 : gb233 ≠ gb235)); have n10_ := Aside0.mk ((ngq hg BK233 : gb235 ≠ gb233)); have n11_ := Aside0.mk ((nlq hg BK234 : gb234 ≠ gb235)); have n12_ := Aside0.mk ((ngq hg BK234 : gb235 ≠ gb234)); clear BK232; clear BK233; clear BK234; clear HB; have BK232 := n0_; have BK233 := n1_; have BK234 := n2_; have HB := n3_; have BK235 := n4_; have GW235 := n5_; have GE235 := n6_; have NB232_235 := n7_; have NB235_232 := n8_; have NB233_235 := n9_; have NB235_233 := n10_; have NB234_235 := n11_; have NB235_234 := n12_; clear n0_ n1_ n2_ n3_ n4_ n5_ n6_ n7_ n8_ n9_ n10_ n11_ n12_; clear hb hbox hg) | ((with_reducible refine gate_callee (f := 8) rfl ?_); refine goesL_ (some 17) rfl rfl Try.func8 (by kernel_rfl) rfl #[] rfl (by (try simp only [List.map_toArray, List.map_cons, List.map_nil]); first | done | rfl | (simp only [List.length_drop, List.length_take]; rfl)) ?_; (with_reducible refine (backreachlaw11_awake.calls k  true _ A7.out).mono ?_); rintro e w18 ⟨rfl, hb⟩; refine ⟨_, rfl, ?_⟩; have n0_ := Aside0.mk (bbq BK232 hb); have n1_ := Aside0.mk (bbq BK233 hb); have n2_ := Aside0.mk (bbq BK234 hb); have n3_ := Aside0.mk (bbq BK235 hb); have n4_ := Aside0.mk (below_step (by repeat (first | (with_reducible first | exact HB.out | apply below_alloc | apply pw_below_drewN | apply below_drew1 | refine below_set ?_ GE232.out | refine below_set ?_ GE233.out | refine below_set ?_ GE234.out | refine below_set ?_ GE235.out) | exact HB.out)) hb); clear BK232; clear BK233; clear BK234; clear BK235; clear HB; have BK232 := n0_; have BK233 := n1_; have BK234 := n2_; have BK235 := n3_; have HB := n4_; clear n0_ n1_ n2_ n3_ n4_; (try clear hb); (try clear hb2); (try clear hk); (try clear hi)))
   have n0_ := Aside0.mk (blk_drew BK232.out)
   have n1_ := Aside0.mk (blk_drew BK233.out)
   have n2_ := Aside0.mk (blk_drew BK234.out)
   have n3_ := Aside0.mk (blk_drew BK235.out)
   have n4_ := Aside0.mk (below_drew1 HB.out)
   clear BK232 BK233 BK234 BK235 HB
   have BK232 := n0_
   have BK233 := n1_
   have BK234 := n2_
   have BK235 := n3_
   have HB := n4_
   clear n0_ n1_ n2_ n3_ n4_
   refine start_ (n := 12) (S := fun w' => w'.cell? ⟨gb232, 0, none⟩ = some (.int .u64 a2_0) ∧ w'.cell? ⟨gb232, 1, none⟩ = some (.int .u64 a2_1) ∧ w'.cell? ⟨gb234, 0, none⟩ = some (.int .u64 a4_0) ∧ w'.cell? ⟨gb234, 1, none⟩ = some (.int .u64 a4_1) ∧ w'.cell? ⟨gb233, 0, none⟩ = some (.int .u64 a3_0) ∧ w'.cell? ⟨gb233, 1, none⟩ = some (.int .u64 a3_1) ∧ w'.cell? ⟨gb235, 0, none⟩ = some (.int .u64 a5_0) ∧ w'.cell? ⟨gb235, 1, none⟩ = some (.int .u64 a5_1)) (ds := []) backreachlaw11_SpanGrows.M1 (by kernel_rfl) rfl rfl ⟨(blk_cell BK232.out 0).trans rfl, (blk_cell BK232.out 1).trans rfl, (blk_cell BK234.out 0).trans rfl, (blk_cell BK234.out 1).trans rfl, (blk_cell BK233.out 0).trans rfl, (blk_cell BK233.out 1).trans rfl, (blk_cell BK235.out 0).trans rfl, (blk_cell BK235.out 1).trans rfl⟩ (fun hHeld => ?_); refine with_tabW backreachlaw11_SpanGrows.tab3 backreachlaw11_SpanGrows.bits3 (fun HT_ HW_ => ?_)
   generalize w18.drew = w19 at BK232 BK233 BK234 BK235 HB hHeld ⊢
   refine pq_ 0 19 ?_ backreachlaw11_SpanGrows.M3 HT_.out ?_ ?_ ?_ ?_
   rotate_left; focus (intro w'; go_simp; with_reducible rfl)
   rotate_left; focus (simp only [Act.put, List.setIfInBounds_toArray, List.set_cons_zero, List.set_cons_succ, i64_w, i32_w]; rfl)
   refine pq_ 4 23 ?_ backreachlaw11_SpanGrows.M4 HT_.out ?_ ?_ ?_ ?_
   rotate_left; focus (intro w'; go_simp; with_reducible rfl)
   rotate_left; focus (simp only [Act.put, List.setIfInBounds_toArray, List.set_cons_zero, List.set_cons_succ, i64_w, i32_w]; rfl)
   refine take_ (i := 1) (N := some 20) (v := ?_) (a' := ?_) backreachlaw11_SpanGrows.M8 rfl rfl (take_ofW HT_.out HW_.out (by kernel_rfl)) (fun _ _ _ h => h) (Or.inl ⟨by rfl, ?_⟩) hHeld ?_ ?_
   rotate_left; focus (rintro w' ⟨s0, s1, s2, s3, s4, s5, s6, s7⟩; go_simp; with_reducible rfl)
   rotate_left; focus (simp only [Act.put, List.setIfInBounds_toArray, List.set_cons_zero, List.set_cons_succ, i64_w, i32_w]; rfl)
   refine take_ (i := 2) (N := some 21) (v := ?_) (a' := ?_) backreachlaw11_SpanGrows.M10 rfl rfl (take_ofW HT_.out HW_.out (by kernel_rfl)) (fun _ _ _ h => h) (Or.inl ⟨by rfl, ?_⟩) hHeld ?_ ?_
   rotate_left; focus (rintro w' ⟨s0, s1, s2, s3, s4, s5, s6, s7⟩; go_simp; with_reducible rfl)
   rotate_left; focus (simp only [Act.put, List.setIfInBounds_toArray, List.set_cons_zero, List.set_cons_succ, i64_w, i32_w]; rfl)
   refine take_ (i := 5) (N := some 24) (v := ?_) (a' := ?_) backreachlaw11_SpanGrows.M11 rfl rfl (take_ofW HT_.out HW_.out (by kernel_rfl)) (fun _ _ _ h => h) (Or.inl ⟨by rfl, ?_⟩) hHeld ?_ ?_
   rotate_left; focus (rintro w' ⟨s0, s1, s2, s3, s4, s5, s6, s7⟩; go_simp; with_reducible rfl)
   rotate_left; focus (simp only [Act.put, List.setIfInBounds_toArray, List.set_cons_zero, List.set_cons_succ, i64_w, i32_w]; rfl)
   refine take_ (i := 6) (N := some 25) (v := ?_) (a' := ?_) backreachlaw11_SpanGrows.M12 rfl rfl (take_ofW HT_.out HW_.out (by kernel_rfl)) (fun _ _ _ h => h) (Or.inl ⟨by rfl, ?_⟩) hHeld ?_ ?_
   rotate_left; focus (rintro w' ⟨s0, s1, s2, s3, s4, s5, s6, s7⟩; go_simp; with_reducible rfl)
   rotate_left; focus (simp only [Act.put, List.setIfInBounds_toArray, List.set_cons_zero, List.set_cons_succ, i64_w, i32_w]; rfl)
   refine join_ (σ := Nat × Nat) 2 backreachlaw11_SpanGrows.M34 (fun s_ => [(22, .agg #[.int .u64 t237, .int .u64 t238]), (26, .agg #[.int .u64 t239, .int .u64 t240]), (13, .pointer (some ⟨s_.1, 0, none⟩)), (14, .pointer (some ⟨s_.2, 0, none⟩))]) (fun s_ w' => (w'.cell? ⟨gb232, 0, none⟩ = some (.int .u64 a2_0) ∧ w'.cell? ⟨gb232, 1, none⟩ = some (.int .u64 a2_1) ∧ w'.cell? ⟨gb234, 0, none⟩ = some (.int .u64 a4_0) ∧ w'.cell? ⟨gb234, 1, none⟩ = some (.int .u64 a4_1) ∧ w'.cell? ⟨gb233, 0, none⟩ = some (.int .u64 a3_0) ∧ w'.cell? ⟨gb233, 1, none⟩ = some (.int .u64 a3_1) ∧ w'.cell? ⟨gb235, 0, none⟩ = some (.int .u64 a5_0) ∧ w'.cell? ⟨gb235, 1, none⟩ = some (.int .u64 a5_1)) ∧ (w'.heap[gb232]? = some (.cells #[.int .u64 a2_0, .int .u64 a2_1] 24 (0, 0))) ∧ (w'.heap[gb233]? = some (.cells #[.int .u64 a3_0, .int .u64 a3_1] 24 (0, 0))) ∧ (w'.heap[gb234]? = some (.cells #[.int .u64 a4_0, .int .u64 a4_1] 24 (0, 0))) ∧ (w'.heap[gb235]? = some (.cells #[.int .u64 a5_0, .int .u64 a5_1] 24 (0, 0))) ∧ (w'.heap[s_.1]? = some (.cells #[.int .u64 0, .int .u64 0] 24 (0, 0))) ∧ (w'.heap[s_.2]? = some (.cells #[.int .u64 0, .int .u64 0] 24 (0, 0))) ∧ (w.heap.size ≤ s_.1) ∧ (w.heap.size ≤ s_.1) ∧ (gb232 ≠ s_.1) ∧ (s_.1 ≠ gb232) ∧ (gb233 ≠ s_.1) ∧ (s_.1 ≠ gb233) ∧ (gb234 ≠ s_.1) ∧ (s_.1 ≠ gb234) ∧ (gb235 ≠ s_.1) ∧ (s_.1 ≠ gb235) ∧ (s_.2 ≠ s_.1) ∧ (s_.1 ≠ s_.2) ∧ (w.heap.size ≤ s_.2) ∧ (w.heap.size ≤ s_.2) ∧ (gb232 ≠ s_.2) ∧ (s_.2 ≠ gb232) ∧ (gb233 ≠ s_.2) ∧ (s_.2 ≠ gb233) ∧ (gb234 ≠ s_.2) ∧ (s_.2 ≠ gb234) ∧ (gb235 ≠ s_.2) ∧ (s_.2 ≠ gb235) ∧ (Below w.heap.size w w')) ?_ ?_
   rotate_left
   ·
    intro hJ3_7_8_9
    refine join_ (σ := Nat) 3 backreachlaw11_SpanGrows.M29 (fun s_ => [(22, .agg #[.int .u64 t237, .int .u64 t238]), (26, .agg #[.int .u64 t239, .int .u64 t240]), (13, .pointer (some ⟨s_, 0, none⟩))]) (fun s_ w' => (w'.cell? ⟨gb232, 0, none⟩ = some (.int .u64 a2_0) ∧ w'.cell? ⟨gb232, 1, none⟩ = some (.int .u64 a2_1) ∧ w'.cell? ⟨gb234, 0, none⟩ = some (.int .u64 a4_0) ∧ w'.cell? ⟨gb234, 1, none⟩ = some (.int .u64 a4_1) ∧ w'.cell? ⟨gb233, 0, none⟩ = some (.int .u64 a3_0) ∧ w'.cell? ⟨gb233, 1, none⟩ = some (.int .u64 a3_1) ∧ w'.cell? ⟨gb235, 0, none⟩ = some (.int .u64 a5_0) ∧ w'.cell? ⟨gb235, 1, none⟩ = some (.int .u64 a5_1)) ∧ (w'.heap[gb232]? = some (.cells #[.int .u64 a2_0, .int .u64 a2_1] 24 (0, 0))) ∧ (w'.heap[gb233]? = some (.cells #[.int .u64 a3_0, .int .u64 a3_1] 24 (0, 0))) ∧ (w'.heap[gb234]? = some (.cells #[.int .u64 a4_0, .int .u64 a4_1] 24 (0, 0))) ∧ (w'.heap[gb235]? = some (.cells #[.int .u64 a5_0, .int .u64 a5_1] 24 (0, 0))) ∧ (w'.heap[s_]? = some (.cells #[.int .u64 0, .int .u64 0] 24 (0, 0))) ∧ (w.heap.size ≤ s_) ∧ (w.heap.size ≤ s_) ∧ (gb232 ≠ s_) ∧ (s_ ≠ gb232) ∧ (gb233 ≠ s_) ∧ (s_ ≠ gb233) ∧ (gb234 ≠ s_) ∧ (s_ ≠ gb234) ∧ (gb235 ≠ s_) ∧ (s_ ≠ gb235) ∧ (Below w.heap.size w w')) ?_ ?_
    rotate_left
    ·
     intro hJ3_7_8
     refine join_ (σ := Nat) 3 backreachlaw11_SpanGrows.M27 (fun s_ => [(22, .agg #[.int .u64 t237, .int .u64 t238]), (26, .agg #[.int .u64 t239, .int .u64 t240]), (14, .pointer (some ⟨s_, 0, none⟩))]) (fun s_ w' => (w'.cell? ⟨gb232, 0, none⟩ = some (.int .u64 a2_0) ∧ w'.cell? ⟨gb232, 1, none⟩ = some (.int .u64 a2_1) ∧ w'.cell? ⟨gb234, 0, none⟩ = some (.int .u64 a4_0) ∧ w'.cell? ⟨gb234, 1, none⟩ = some (.int .u64 a4_1) ∧ w'.cell? ⟨gb233, 0, none⟩ = some (.int .u64 a3_0) ∧ w'.cell? ⟨gb233, 1, none⟩ = some (.int .u64 a3_1) ∧ w'.cell? ⟨gb235, 0, none⟩ = some (.int .u64 a5_0) ∧ w'.cell? ⟨gb235, 1, none⟩ = some (.int .u64 a5_1)) ∧ (w'.heap[gb232]? = some (.cells #[.int .u64 a2_0, .int .u64 a2_1] 24 (0, 0))) ∧ (w'.heap[gb233]? = some (.cells #[.int .u64 a3_0, .int .u64 a3_1] 24 (0, 0))) ∧ (w'.heap[gb234]? = some (.cells #[.int .u64 a4_0, .int .u64 a4_1] 24 (0, 0))) ∧ (w'.heap[gb235]? = some (.cells #[.int .u64 a5_0, .int .u64 a5_1] 24 (0, 0))) ∧ (w'.heap[s_]? = some (.cells #[.int .u64 0, .int .u64 0] 24 (0, 0))) ∧ (w.heap.size ≤ s_) ∧ (w.heap.size ≤ s_) ∧ (gb232 ≠ s_) ∧ (s_ ≠ gb232) ∧ (gb233 ≠ s_) ∧ (s_ ≠ gb233) ∧ (gb234 ≠ s_) ∧ (s_ ≠ gb234) ∧ (gb235 ≠ s_) ∧ (s_ ≠ gb235) ∧ (Below w.heap.size w w')) ?_ ?_
     rotate_left
     ·
      intro hJ3_7_9
      refine join_ (σ := Nat × Nat) 3 backreachlaw11_SpanGrows.M25 (fun s_ => [(22, .agg #[.int .u64 t237, .int .u64 t238]), (13, .pointer (some ⟨s_.1, 0, none⟩)), (14, .pointer (some ⟨s_.2, 0, none⟩))]) (fun s_ w' => (w'.cell? ⟨gb232, 0, none⟩ = some (.int .u64 a2_0) ∧ w'.cell? ⟨gb232, 1, none⟩ = some (.int .u64 a2_1) ∧ w'.cell? ⟨gb234, 0, none⟩ = some (.int .u64 a4_0) ∧ w'.cell? ⟨gb234, 1, none⟩ = some (.int .u64 a4_1) ∧ w'.cell? ⟨gb233, 0, none⟩ = some (.int .u64 a3_0) ∧ w'.cell? ⟨gb233, 1, none⟩ = some (.int .u64 a3_1) ∧ w'.cell? ⟨gb235, 0, none⟩ = some (.int .u64 a5_0) ∧ w'.cell? ⟨gb235, 1, none⟩ = some (.int .u64 a5_1)) ∧ (w'.heap[gb232]? = some (.cells #[.int .u64 a2_0, .int .u64 a2_1] 24 (0, 0))) ∧ (w'.heap[gb233]? = some (.cells #[.int .u64 a3_0, .int .u64 a3_1] 24 (0, 0))) ∧ (w'.heap[gb234]? = some (.cells #[.int .u64 a4_0, .int .u64 a4_1] 24 (0, 0))) ∧ (w'.heap[gb235]? = some (.cells #[.int .u64 a5_0, .int .u64 a5_1] 24 (0, 0))) ∧ (w'.heap[s_.1]? = some (.cells #[.int .u64 0, .int .u64 0] 24 (0, 0))) ∧ (w'.heap[s_.2]? = some (.cells #[.int .u64 0, .int .u64 0] 24 (0, 0))) ∧ (w.heap.size ≤ s_.1) ∧ (w.heap.size ≤ s_.1) ∧ (gb232 ≠ s_.1) ∧ (s_.1 ≠ gb232) ∧ (gb233 ≠ s_.1) ∧ (s_.1 ≠ gb233) ∧ (gb234 ≠ s_.1) ∧ (s_.1 ≠ gb234) ∧ (gb235 ≠ s_.1) ∧ (s_.1 ≠ gb235) ∧ (s_.2 ≠ s_.1) ∧ (s_.1 ≠ s_.2) ∧ (w.heap.size ≤ s_.2) ∧ (w.heap.size ≤ s_.2) ∧ (gb232 ≠ s_.2) ∧ (s_.2 ≠ gb232) ∧ (gb233 ≠ s_.2) ∧ (s_.2 ≠ gb233) ∧ (gb234 ≠ s_.2) ∧ (s_.2 ≠ gb234) ∧ (gb235 ≠ s_.2) ∧ (s_.2 ≠ gb235) ∧ (Below w.heap.size w w')) ?_ ?_
      rotate_left
      ·
       intro hJ3_8_9
       refine join_ (σ := Unit) 4 backreachlaw11_SpanGrows.M26 (fun s_ => [(22, .agg #[.int .u64 t237, .int .u64 t238]), (26, .agg #[.int .u64 t239, .int .u64 t240])]) (fun s_ w' => (w'.cell? ⟨gb232, 0, none⟩ = some (.int .u64 a2_0) ∧ w'.cell? ⟨gb232, 1, none⟩ = some (.int .u64 a2_1) ∧ w'.cell? ⟨gb234, 0, none⟩ = some (.int .u64 a4_0) ∧ w'.cell? ⟨gb234, 1, none⟩ = some (.int .u64 a4_1) ∧ w'.cell? ⟨gb233, 0, none⟩ = some (.int .u64 a3_0) ∧ w'.cell? ⟨gb233, 1, none⟩ = some (.int .u64 a3_1) ∧ w'.cell? ⟨gb235, 0, none⟩ = some (.int .u64 a5_0) ∧ w'.cell? ⟨gb235, 1, none⟩ = some (.int .u64 a5_1)) ∧ (w'.heap[gb232]? = some (.cells #[.int .u64 a2_0, .int .u64 a2_1] 24 (0, 0))) ∧ (w'.heap[gb233]? = some (.cells #[.int .u64 a3_0, .int .u64 a3_1] 24 (0, 0))) ∧ (w'.heap[gb234]? = some (.cells #[.int .u64 a4_0, .int .u64 a4_1] 24 (0, 0))) ∧ (w'.heap[gb235]? = some (.cells #[.int .u64 a5_0, .int .u64 a5_1] 24 (0, 0))) ∧ (Below w.heap.size w w')) ?_ ?_
       rotate_left
       ·
        intro hJ3_7
        refine join_ (σ := Nat) 4 backreachlaw11_SpanGrows.M24 (fun s_ => [(22, .agg #[.int .u64 t237, .int .u64 t238]), (13, .pointer (some ⟨s_, 0, none⟩))]) (fun s_ w' => (w'.cell? ⟨gb232, 0, none⟩ = some (.int .u64 a2_0) ∧ w'.cell? ⟨gb232, 1, none⟩ = some (.int .u64 a2_1) ∧ w'.cell? ⟨gb234, 0, none⟩ = some (.int .u64 a4_0) ∧ w'.cell? ⟨gb234, 1, none⟩ = some (.int .u64 a4_1) ∧ w'.cell? ⟨gb233, 0, none⟩ = some (.int .u64 a3_0) ∧ w'.cell? ⟨gb233, 1, none⟩ = some (.int .u64 a3_1) ∧ w'.cell? ⟨gb235, 0, none⟩ = some (.int .u64 a5_0) ∧ w'.cell? ⟨gb235, 1, none⟩ = some (.int .u64 a5_1)) ∧ (w'.heap[gb232]? = some (.cells #[.int .u64 a2_0, .int .u64 a2_1] 24 (0, 0))) ∧ (w'.heap[gb233]? = some (.cells #[.int .u64 a3_0, .int .u64 a3_1] 24 (0, 0))) ∧ (w'.heap[gb234]? = some (.cells #[.int .u64 a4_0, .int .u64 a4_1] 24 (0, 0))) ∧ (w'.heap[gb235]? = some (.cells #[.int .u64 a5_0, .int .u64 a5_1] 24 (0, 0))) ∧ (w'.heap[s_]? = some (.cells #[.int .u64 0, .int .u64 0] 24 (0, 0))) ∧ (w.heap.size ≤ s_) ∧ (w.heap.size ≤ s_) ∧ (gb232 ≠ s_) ∧ (s_ ≠ gb232) ∧ (gb233 ≠ s_) ∧ (s_ ≠ gb233) ∧ (gb234 ≠ s_) ∧ (s_ ≠ gb234) ∧ (gb235 ≠ s_) ∧ (s_ ≠ gb235) ∧ (Below w.heap.size w w')) ?_ ?_
        rotate_left
        ·
         intro hJ3_8
         refine join_ (σ := Nat) 4 backreachlaw11_SpanGrows.M23 (fun s_ => [(22, .agg #[.int .u64 t237, .int .u64 t238]), (14, .pointer (some ⟨s_, 0, none⟩))]) (fun s_ w' => (w'.cell? ⟨gb232, 0, none⟩ = some (.int .u64 a2_0) ∧ w'.cell? ⟨gb232, 1, none⟩ = some (.int .u64 a2_1) ∧ w'.cell? ⟨gb234, 0, none⟩ = some (.int .u64 a4_0) ∧ w'.cell? ⟨gb234, 1, none⟩ = some (.int .u64 a4_1) ∧ w'.cell? ⟨gb233, 0, none⟩ = some (.int .u64 a3_0) ∧ w'.cell? ⟨gb233, 1, none⟩ = some (.int .u64 a3_1) ∧ w'.cell? ⟨gb235, 0, none⟩ = some (.int .u64 a5_0) ∧ w'.cell? ⟨gb235, 1, none⟩ = some (.int .u64 a5_1)) ∧ (w'.heap[gb232]? = some (.cells #[.int .u64 a2_0, .int .u64 a2_1] 24 (0, 0))) ∧ (w'.heap[gb233]? = some (.cells #[.int .u64 a3_0, .int .u64 a3_1] 24 (0, 0))) ∧ (w'.heap[gb234]? = some (.cells #[.int .u64 a4_0, .int .u64 a4_1] 24 (0, 0))) ∧ (w'.heap[gb235]? = some (.cells #[.int .u64 a5_0, .int .u64 a5_1] 24 (0, 0))) ∧ (w'.heap[s_]? = some (.cells #[.int .u64 0, .int .u64 0] 24 (0, 0))) ∧ (w.heap.size ≤ s_) ∧ (w.heap.size ≤ s_) ∧ (gb232 ≠ s_) ∧ (s_ ≠ gb232) ∧ (gb233 ≠ s_) ∧ (s_ ≠ gb233) ∧ (gb234 ≠ s_) ∧ (s_ ≠ gb234) ∧ (gb235 ≠ s_) ∧ (s_ ≠ gb235) ∧ (Below w.heap.size w w')) ?_ ?_
         rotate_left
         ·
          intro hJ3_9
          refine join_ (σ := Nat × Nat) 4 backreachlaw11_SpanGrows.M15 (fun s_ => [(13, .pointer (some ⟨s_.1, 0, none⟩)), (14, .pointer (some ⟨s_.2, 0, none⟩))]) (fun s_ w' => (w'.cell? ⟨gb232, 0, none⟩ = some (.int .u64 a2_0) ∧ w'.cell? ⟨gb232, 1, none⟩ = some (.int .u64 a2_1) ∧ w'.cell? ⟨gb234, 0, none⟩ = some (.int .u64 a4_0) ∧ w'.cell? ⟨gb234, 1, none⟩ = some (.int .u64 a4_1) ∧ w'.cell? ⟨gb233, 0, none⟩ = some (.int .u64 a3_0) ∧ w'.cell? ⟨gb233, 1, none⟩ = some (.int .u64 a3_1) ∧ w'.cell? ⟨gb235, 0, none⟩ = some (.int .u64 a5_0) ∧ w'.cell? ⟨gb235, 1, none⟩ = some (.int .u64 a5_1)) ∧ (w'.heap[gb232]? = some (.cells #[.int .u64 a2_0, .int .u64 a2_1] 24 (0, 0))) ∧ (w'.heap[gb233]? = some (.cells #[.int .u64 a3_0, .int .u64 a3_1] 24 (0, 0))) ∧ (w'.heap[gb234]? = some (.cells #[.int .u64 a4_0, .int .u64 a4_1] 24 (0, 0))) ∧ (w'.heap[gb235]? = some (.cells #[.int .u64 a5_0, .int .u64 a5_1] 24 (0, 0))) ∧ (w'.heap[s_.1]? = some (.cells #[.int .u64 0, .int .u64 0] 24 (0, 0))) ∧ (w'.heap[s_.2]? = some (.cells #[.int .u64 0, .int .u64 0] 24 (0, 0))) ∧ (w.heap.size ≤ s_.1) ∧ (w.heap.size ≤ s_.1) ∧ (gb232 ≠ s_.1) ∧ (s_.1 ≠ gb232) ∧ (gb233 ≠ s_.1) ∧ (s_.1 ≠ gb233) ∧ (gb234 ≠ s_.1) ∧ (s_.1 ≠ gb234) ∧ (gb235 ≠ s_.1) ∧ (s_.1 ≠ gb235) ∧ (s_.2 ≠ s_.1) ∧ (s_.1 ≠ s_.2) ∧ (w.heap.size ≤ s_.2) ∧ (w.heap.size ≤ s_.2) ∧ (gb232 ≠ s_.2) ∧ (s_.2 ≠ gb232) ∧ (gb233 ≠ s_.2) ∧ (s_.2 ≠ gb233) ∧ (gb234 ≠ s_.2) ∧ (s_.2 ≠ gb234) ∧ (gb235 ≠ s_.2) ∧ (s_.2 ≠ gb235) ∧ (Below w.heap.size w w')) ?_ ?_
          rotate_left
          ·
           intro hJ8_9
           refine join_ (σ := Unit) 5 backreachlaw11_SpanGrows.M22 (fun s_ => [(22, .agg #[.int .u64 t237, .int .u64 t238])]) (fun s_ w' => (w'.cell? ⟨gb232, 0, none⟩ = some (.int .u64 a2_0) ∧ w'.cell? ⟨gb232, 1, none⟩ = some (.int .u64 a2_1) ∧ w'.cell? ⟨gb234, 0, none⟩ = some (.int .u64 a4_0) ∧ w'.cell? ⟨gb234, 1, none⟩ = some (.int .u64 a4_1) ∧ w'.cell? ⟨gb233, 0, none⟩ = some (.int .u64 a3_0) ∧ w'.cell? ⟨gb233, 1, none⟩ = some (.int .u64 a3_1) ∧ w'.cell? ⟨gb235, 0, none⟩ = some (.int .u64 a5_0) ∧ w'.cell? ⟨gb235, 1, none⟩ = some (.int .u64 a5_1)) ∧ (w'.heap[gb232]? = some (.cells #[.int .u64 a2_0, .int .u64 a2_1] 24 (0, 0))) ∧ (w'.heap[gb233]? = some (.cells #[.int .u64 a3_0, .int .u64 a3_1] 24 (0, 0))) ∧ (w'.heap[gb234]? = some (.cells #[.int .u64 a4_0, .int .u64 a4_1] 24 (0, 0))) ∧ (w'.heap[gb235]? = some (.cells #[.int .u64 a5_0, .int .u64 a5_1] 24 (0, 0))) ∧ (Below w.heap.size w w')) ?_ ?_
           rotate_left
           ·
            intro hJ3
            refine join_ (σ := Nat) 5 backreachlaw11_SpanGrows.M14 (fun s_ => [(13, .pointer (some ⟨s_, 0, none⟩))]) (fun s_ w' => (w'.cell? ⟨gb232, 0, none⟩ = some (.int .u64 a2_0) ∧ w'.cell? ⟨gb232, 1, none⟩ = some (.int .u64 a2_1) ∧ w'.cell? ⟨gb234, 0, none⟩ = some (.int .u64 a4_0) ∧ w'.cell? ⟨gb234, 1, none⟩ = some (.int .u64 a4_1) ∧ w'.cell? ⟨gb233, 0, none⟩ = some (.int .u64 a3_0) ∧ w'.cell? ⟨gb233, 1, none⟩ = some (.int .u64 a3_1) ∧ w'.cell? ⟨gb235, 0, none⟩ = some (.int .u64 a5_0) ∧ w'.cell? ⟨gb235, 1, none⟩ = some (.int .u64 a5_1)) ∧ (w'.heap[gb232]? = some (.cells #[.int .u64 a2_0, .int .u64 a2_1] 24 (0, 0))) ∧ (w'.heap[gb233]? = some (.cells #[.int .u64 a3_0, .int .u64 a3_1] 24 (0, 0))) ∧ (w'.heap[gb234]? = some (.cells #[.int .u64 a4_0, .int .u64 a4_1] 24 (0, 0))) ∧ (w'.heap[gb235]? = some (.cells #[.int .u64 a5_0, .int .u64 a5_1] 24 (0, 0))) ∧ (w'.heap[s_]? = some (.cells #[.int .u64 0, .int .u64 0] 24 (0, 0))) ∧ (w.heap.size ≤ s_) ∧ (w.heap.size ≤ s_) ∧ (gb232 ≠ s_) ∧ (s_ ≠ gb232) ∧ (gb233 ≠ s_) ∧ (s_ ≠ gb233) ∧ (gb234 ≠ s_) ∧ (s_ ≠ gb234) ∧ (gb235 ≠ s_) ∧ (s_ ≠ gb235) ∧ (Below w.heap.size w w')) ?_ ?_
            rotate_left
            ·
             intro hJ8
             refine join_ (σ := Nat) 5 backreachlaw11_SpanGrows.M13 (fun s_ => [(14, .pointer (some ⟨s_, 0, none⟩))]) (fun s_ w' => (w'.cell? ⟨gb232, 0, none⟩ = some (.int .u64 a2_0) ∧ w'.cell? ⟨gb232, 1, none⟩ = some (.int .u64 a2_1) ∧ w'.cell? ⟨gb234, 0, none⟩ = some (.int .u64 a4_0) ∧ w'.cell? ⟨gb234, 1, none⟩ = some (.int .u64 a4_1) ∧ w'.cell? ⟨gb233, 0, none⟩ = some (.int .u64 a3_0) ∧ w'.cell? ⟨gb233, 1, none⟩ = some (.int .u64 a3_1) ∧ w'.cell? ⟨gb235, 0, none⟩ = some (.int .u64 a5_0) ∧ w'.cell? ⟨gb235, 1, none⟩ = some (.int .u64 a5_1)) ∧ (w'.heap[gb232]? = some (.cells #[.int .u64 a2_0, .int .u64 a2_1] 24 (0, 0))) ∧ (w'.heap[gb233]? = some (.cells #[.int .u64 a3_0, .int .u64 a3_1] 24 (0, 0))) ∧ (w'.heap[gb234]? = some (.cells #[.int .u64 a4_0, .int .u64 a4_1] 24 (0, 0))) ∧ (w'.heap[gb235]? = some (.cells #[.int .u64 a5_0, .int .u64 a5_1] 24 (0, 0))) ∧ (w'.heap[s_]? = some (.cells #[.int .u64 0, .int .u64 0] 24 (0, 0))) ∧ (w.heap.size ≤ s_) ∧ (w.heap.size ≤ s_) ∧ (gb232 ≠ s_) ∧ (s_ ≠ gb232) ∧ (gb233 ≠ s_) ∧ (s_ ≠ gb233) ∧ (gb234 ≠ s_) ∧ (s_ ≠ gb234) ∧ (gb235 ≠ s_) ∧ (s_ ≠ gb235) ∧ (Below w.heap.size w w')) ?_ ?_
             rotate_left
             ·
              intro hJ9
              refine three_ (i := 3) (j := 8) (k := 9) (Ni := some 22) (Nj := some 13) (Nk := some 14) backreachlaw11_SpanGrows.M22 backreachlaw11_SpanGrows.M14 backreachlaw11_SpanGrows.M13 rfl rfl rfl rfl rfl rfl (three_of HT_.out (by kernel_rfl)) (by decide) (by decide) (by decide) (fun K hK => ?_) (fun K hK => ?_) (fun K hK => ?_)
              ·
               skip
               refine goes_ Try.func15 (by kernel_rfl) rfl #[.int .i64 a1, .agg #[.int .u64 a2_0, .int .u64 a2_1], .agg #[.int .u64 a4_0, .int .u64 a4_1]] (by rfl) rfl rfl (by (try simp only [List.map_toArray, List.map_cons, List.map_nil]); first | done | rfl | (simp only [List.length_drop, List.length_take]; rfl)) ?_
               with_reducible refine (span_Join.calls a1 a2_0 a2_1 a4_0 a4_1 t237 t238 _ A9.out).mono ?_
               rintro e w20 ⟨rfl, hb⟩
               refine ⟨_, rfl, ?_⟩
               have n0_ := Aside0.mk (bbq BK232 hb)
               have n1_ := Aside0.mk (bbq BK233 hb)
               have n2_ := Aside0.mk (bbq BK234 hb)
               have n3_ := Aside0.mk (bbq BK235 hb)
               have n4_ := Aside0.mk (below_step (hbq HB) hb)
               clear BK232 BK233 BK234 BK235 HB
               have BK232 := n0_
               have BK233 := n1_
               have BK234 := n2_
               have BK235 := n3_
               have HB := n4_
               clear n0_ n1_ n2_ n3_ n4_
               (try clear hb)
               (try clear hb2)
               (try clear hk)
               (try clear hi)
               refine hK.out _ _ ⟨(blk_cell BK232.out 0).trans rfl, (blk_cell BK232.out 1).trans rfl, (blk_cell BK234.out 0).trans rfl, (blk_cell BK234.out 1).trans rfl, (blk_cell BK233.out 0).trans rfl, (blk_cell BK233.out 1).trans rfl, (blk_cell BK235.out 0).trans rfl, (blk_cell BK235.out 1).trans rfl⟩ (fun hHeld => ?_)
               clear hK K
               refine norm_ (a' := ?_) ?_ ?_
               rotate_left
               ·
                show Act.put _ (some 22) _ = _
                simp only [Act.put, List.setIfInBounds_toArray, List.set_cons_zero, List.set_cons_succ, i64_w, i32_w]
                rfl
               exact nq_ (hJ3 () _ ⟨hHeld, (bkq BK232), (bkq BK233), (bkq BK234), (bkq BK235), (hbq HB)⟩)
              ·
               skip
               refine box_step ?hg (N := 13) ?hd (cs := #[.int .u64 0, .int .u64 0]) (t := 24) ?hr ?_; (case hd => rfl); (case hg => rfl); (case hr => first | (go_simp; done) | (go_simp; rfl))
               intro gb241 hg w20 hbox hb
               have n0_ := Aside0.mk (bbq BK232 hb)
               have n1_ := Aside0.mk (bbq BK233 hb)
               have n2_ := Aside0.mk (bbq BK234 hb)
               have n3_ := Aside0.mk (bbq BK235 hb)
               have n4_ := Aside0.mk (below_step (hbq HB) hb)
               have n5_ := Aside0.mk (hbox)
               have n6_ := Aside0.mk ((bsq hg HB : w.heap.size ≤ gb241))
               have n7_ := Aside0.mk ((bsq hg HB : w.heap.size ≤ gb241))
               have n8_ := Aside0.mk ((nlq hg BK232 : gb232 ≠ gb241))
               have n9_ := Aside0.mk ((ngq hg BK232 : gb241 ≠ gb232))
               have n10_ := Aside0.mk ((nlq hg BK233 : gb233 ≠ gb241))
               have n11_ := Aside0.mk ((ngq hg BK233 : gb241 ≠ gb233))
               have n12_ := Aside0.mk ((nlq hg BK234 : gb234 ≠ gb241))
               have n13_ := Aside0.mk ((ngq hg BK234 : gb241 ≠ gb234))
               have n14_ := Aside0.mk ((nlq hg BK235 : gb235 ≠ gb241))
               have n15_ := Aside0.mk ((ngq hg BK235 : gb241 ≠ gb235))
               clear BK232 BK233 BK234 BK235 HB
               have BK232 := n0_
               have BK233 := n1_
               have BK234 := n2_
               have BK235 := n3_
               have HB := n4_
               have BK241 := n5_
               have GW241 := n6_
               have GE241 := n7_
               have NB232_241 := n8_
               have NB241_232 := n9_
               have NB233_241 := n10_
               have NB241_233 := n11_
               have NB234_241 := n12_
               have NB241_234 := n13_
               have NB235_241 := n14_
               have NB241_235 := n15_
               clear n0_ n1_ n2_ n3_ n4_ n5_ n6_ n7_ n8_ n9_ n10_ n11_ n12_ n13_ n14_ n15_ hb hbox hg
               refine hK.out _ _ ⟨(blk_cell BK232.out 0).trans rfl, (blk_cell BK232.out 1).trans rfl, (blk_cell BK234.out 0).trans rfl, (blk_cell BK234.out 1).trans rfl, (blk_cell BK233.out 0).trans rfl, (blk_cell BK233.out 1).trans rfl, (blk_cell BK235.out 0).trans rfl, (blk_cell BK235.out 1).trans rfl⟩ (fun hHeld => ?_)
               clear hK K
               refine norm_ (a' := ?_) ?_ ?_
               rotate_left
               ·
                show Act.put _ (some 13) _ = _
                simp only [Act.put, List.setIfInBounds_toArray, List.set_cons_zero, List.set_cons_succ, i64_w, i32_w]
                rfl
               exact nq_ (hJ8 (gb241) _ ⟨hHeld, (bkq BK232), (bkq BK233), (bkq BK234), (bkq BK235), (bkq BK241), GW241.out, GE241.out, NB232_241.out, NB241_232.out, NB233_241.out, NB241_233.out, NB234_241.out, NB241_234.out, NB235_241.out, NB241_235.out, (hbq HB)⟩)
              ·
               skip
               refine box_step ?hg (N := 14) ?hd (cs := #[.int .u64 0, .int .u64 0]) (t := 24) ?hr ?_; (case hd => rfl); (case hg => rfl); (case hr => first | (go_simp; done) | (go_simp; rfl))
               intro gb242 hg w20 hbox hb
               have n0_ := Aside0.mk (bbq BK232 hb)
               have n1_ := Aside0.mk (bbq BK233 hb)
               have n2_ := Aside0.mk (bbq BK234 hb)
               have n3_ := Aside0.mk (bbq BK235 hb)
               have n4_ := Aside0.mk (below_step (hbq HB) hb)
               have n5_ := Aside0.mk (hbox)
               have n6_ := Aside0.mk ((bsq hg HB : w.heap.size ≤ gb242))
               have n7_ := Aside0.mk ((bsq hg HB : w.heap.size ≤ gb242))
               have n8_ := Aside0.mk ((nlq hg BK232 : gb232 ≠ gb242))
               have n9_ := Aside0.mk ((ngq hg BK232 : gb242 ≠ gb232))
               have n10_ := Aside0.mk ((nlq hg BK233 : gb233 ≠ gb242))
               have n11_ := Aside0.mk ((ngq hg BK233 : gb242 ≠ gb233))
               have n12_ := Aside0.mk ((nlq hg BK234 : gb234 ≠ gb242))
               have n13_ := Aside0.mk ((ngq hg BK234 : gb242 ≠ gb234))
               have n14_ := Aside0.mk ((nlq hg BK235 : gb235 ≠ gb242))
               have n15_ := Aside0.mk ((ngq hg BK235 : gb242 ≠ gb235))
               clear BK232 BK233 BK234 BK235 HB
               have BK232 := n0_
               have BK233 := n1_
               have BK234 := n2_
               have BK235 := n3_
               have HB := n4_
               have BK242 := n5_
               have GW242 := n6_
               have GE242 := n7_
               have NB232_242 := n8_
               have NB242_232 := n9_
               have NB233_242 := n10_
               have NB242_233 := n11_
               have NB234_242 := n12_
               have NB242_234 := n13_
               have NB235_242 := n14_
               have NB242_235 := n15_
               clear n0_ n1_ n2_ n3_ n4_ n5_ n6_ n7_ n8_ n9_ n10_ n11_ n12_ n13_ n14_ n15_ hb hbox hg
               refine hK.out _ _ ⟨(blk_cell BK232.out 0).trans rfl, (blk_cell BK232.out 1).trans rfl, (blk_cell BK234.out 0).trans rfl, (blk_cell BK234.out 1).trans rfl, (blk_cell BK233.out 0).trans rfl, (blk_cell BK233.out 1).trans rfl, (blk_cell BK235.out 0).trans rfl, (blk_cell BK235.out 1).trans rfl⟩ (fun hHeld => ?_)
               clear hK K
               refine norm_ (a' := ?_) ?_ ?_
               rotate_left
               ·
                show Act.put _ (some 14) _ = _
                simp only [Act.put, List.setIfInBounds_toArray, List.set_cons_zero, List.set_cons_succ, i64_w, i32_w]
                rfl
               exact nq_ (hJ9 (gb242) _ ⟨hHeld, (bkq BK232), (bkq BK233), (bkq BK234), (bkq BK235), (bkq BK242), GW242.out, GE242.out, NB232_242.out, NB242_232.out, NB233_242.out, NB242_233.out, NB234_242.out, NB242_234.out, NB235_242.out, NB242_235.out, (hbq HB)⟩)
             ·
              skip
              rintro gb242 w21 ⟨hS_, h0_, h1_, h2_, h3_, h4_, h5_, h6_, h7_, h8_, h9_, h10_, h11_, h12_, h13_, h14_, h15_⟩
              have n0_ : Aside0 (w21.heap[gb232]? = some (.cells #[.int .u64 a2_0, .int .u64 a2_1] 24 (0, 0))) := ⟨h0_⟩
              have n1_ : Aside0 (w21.heap[gb233]? = some (.cells #[.int .u64 a3_0, .int .u64 a3_1] 24 (0, 0))) := ⟨h1_⟩
              have n2_ : Aside0 (w21.heap[gb234]? = some (.cells #[.int .u64 a4_0, .int .u64 a4_1] 24 (0, 0))) := ⟨h2_⟩
              have n3_ : Aside0 (w21.heap[gb235]? = some (.cells #[.int .u64 a5_0, .int .u64 a5_1] 24 (0, 0))) := ⟨h3_⟩
              have n4_ : Aside0 (w21.heap[gb242]? = some (.cells #[.int .u64 0, .int .u64 0] 24 (0, 0))) := ⟨h4_⟩
              have n5_ : Aside0 (w.heap.size ≤ gb242) := ⟨h5_⟩
              have n6_ : Aside0 (w.heap.size ≤ gb242) := ⟨h6_⟩
              have n7_ : Aside0 (gb232 ≠ gb242) := ⟨h7_⟩
              have n8_ : Aside0 (gb242 ≠ gb232) := ⟨h8_⟩
              have n9_ : Aside0 (gb233 ≠ gb242) := ⟨h9_⟩
              have n10_ : Aside0 (gb242 ≠ gb233) := ⟨h10_⟩
              have n11_ : Aside0 (gb234 ≠ gb242) := ⟨h11_⟩
              have n12_ : Aside0 (gb242 ≠ gb234) := ⟨h12_⟩
              have n13_ : Aside0 (gb235 ≠ gb242) := ⟨h13_⟩
              have n14_ : Aside0 (gb242 ≠ gb235) := ⟨h14_⟩
              have n15_ : Aside0 (Below w.heap.size w w21) := ⟨h15_⟩
              clear BK232 BK233 BK234 BK235 HB h0_ h1_ h2_ h3_ h4_ h5_ h6_ h7_ h8_ h9_ h10_ h11_ h12_ h13_ h14_ h15_
              have BK232 := n0_
              have BK233 := n1_
              have BK234 := n2_
              have BK235 := n3_
              have BK242 := n4_
              have GW242 := n5_
              have GE242 := n6_
              have NB232_242 := n7_
              have NB242_232 := n8_
              have NB233_242 := n9_
              have NB242_233 := n10_
              have NB234_242 := n11_
              have NB242_234 := n12_
              have NB235_242 := n13_
              have NB242_235 := n14_
              have HB := n15_
              clear n0_ n1_ n2_ n3_ n4_ n5_ n6_ n7_ n8_ n9_ n10_ n11_ n12_ n13_ n14_ n15_
              have hHeld : w21.cell? ⟨gb232, 0, none⟩ = some (.int .u64 a2_0) ∧ w21.cell? ⟨gb232, 1, none⟩ = some (.int .u64 a2_1) ∧ w21.cell? ⟨gb234, 0, none⟩ = some (.int .u64 a4_0) ∧ w21.cell? ⟨gb234, 1, none⟩ = some (.int .u64 a4_1) ∧ w21.cell? ⟨gb233, 0, none⟩ = some (.int .u64 a3_0) ∧ w21.cell? ⟨gb233, 1, none⟩ = some (.int .u64 a3_1) ∧ w21.cell? ⟨gb235, 0, none⟩ = some (.int .u64 a5_0) ∧ w21.cell? ⟨gb235, 1, none⟩ = some (.int .u64 a5_1) := hS_
              refine norm_ (a' := ?_) ?_ ?_
              rotate_left
              ·
               simp only [putAll, Act.put, List.setIfInBounds_toArray, List.set_cons_zero, List.set_cons_succ]
               rfl
              refine two_ (i := 3) (j := 8) (Ni := some 22) (Nj := some 13) backreachlaw11_SpanGrows.M23 backreachlaw11_SpanGrows.M15 rfl rfl rfl rfl (two_of HT_.out (by kernel_rfl)) (by decide) (by decide) (fun K hK => ?_) (fun K hK => ?_)
              ·
               skip
               refine goes_ Try.func15 (by kernel_rfl) rfl #[.int .i64 a1, .agg #[.int .u64 a2_0, .int .u64 a2_1], .agg #[.int .u64 a4_0, .int .u64 a4_1]] (by rfl) rfl rfl (by (try simp only [List.map_toArray, List.map_cons, List.map_nil]); first | done | rfl | (simp only [List.length_drop, List.length_take]; rfl)) ?_
               with_reducible refine (span_Join.calls a1 a2_0 a2_1 a4_0 a4_1 t237 t238 _ A9.out).mono ?_
               rintro e w22 ⟨rfl, hb⟩
               refine ⟨_, rfl, ?_⟩
               have n0_ := Aside0.mk (bbq BK232 hb)
               have n1_ := Aside0.mk (bbq BK233 hb)
               have n2_ := Aside0.mk (bbq BK234 hb)
               have n3_ := Aside0.mk (bbq BK235 hb)
               have n4_ := Aside0.mk (bbq BK242 hb)
               have n5_ := Aside0.mk (below_step (hbq HB) hb)
               clear BK232 BK233 BK234 BK235 BK242 HB
               have BK232 := n0_
               have BK233 := n1_
               have BK234 := n2_
               have BK235 := n3_
               have BK242 := n4_
               have HB := n5_
               clear n0_ n1_ n2_ n3_ n4_ n5_
               (try clear hb)
               (try clear hb2)
               (try clear hk)
               (try clear hi)
               refine hK.out _ _ ⟨(blk_cell BK232.out 0).trans rfl, (blk_cell BK232.out 1).trans rfl, (blk_cell BK234.out 0).trans rfl, (blk_cell BK234.out 1).trans rfl, (blk_cell BK233.out 0).trans rfl, (blk_cell BK233.out 1).trans rfl, (blk_cell BK235.out 0).trans rfl, (blk_cell BK235.out 1).trans rfl⟩ (fun hHeld => ?_)
               clear hK K
               refine norm_ (a' := ?_) ?_ ?_
               rotate_left
               ·
                show Act.put _ (some 22) _ = _
                simp only [Act.put, List.setIfInBounds_toArray, List.set_cons_zero, List.set_cons_succ, i64_w, i32_w]
                rfl
               exact nq_ (hJ3_9 (gb242) _ ⟨hHeld, (bkq BK232), (bkq BK233), (bkq BK234), (bkq BK235), (bkq BK242), GW242.out, GE242.out, NB232_242.out, NB242_232.out, NB233_242.out, NB242_233.out, NB234_242.out, NB242_234.out, NB235_242.out, NB242_235.out, (hbq HB)⟩)
              ·
               skip
               refine box_step ?hg (N := 13) ?hd (cs := #[.int .u64 0, .int .u64 0]) (t := 24) ?hr ?_; (case hd => rfl); (case hg => rfl); (case hr => first | (go_simp; done) | (go_simp; rfl))
               intro gb241 hg w22 hbox hb
               have n0_ := Aside0.mk (bbq BK232 hb)
               have n1_ := Aside0.mk (bbq BK233 hb)
               have n2_ := Aside0.mk (bbq BK234 hb)
               have n3_ := Aside0.mk (bbq BK235 hb)
               have n4_ := Aside0.mk (bbq BK242 hb)
               have n5_ := Aside0.mk (below_step (hbq HB) hb)
               have n6_ := Aside0.mk (hbox)
               have n7_ := Aside0.mk ((bsq hg HB : w.heap.size ≤ gb241))
               have n8_ := Aside0.mk ((bsq hg HB : w.heap.size ≤ gb241))
               have n9_ := Aside0.mk ((nlq hg BK232 : gb232 ≠ gb241))
               have n10_ := Aside0.mk ((ngq hg BK232 : gb241 ≠ gb232))
               have n11_ := Aside0.mk ((nlq hg BK233 : gb233 ≠ gb241))
               have n12_ := Aside0.mk ((ngq hg BK233 : gb241 ≠ gb233))
               have n13_ := Aside0.mk ((nlq hg BK234 : gb234 ≠ gb241))
               have n14_ := Aside0.mk ((ngq hg BK234 : gb241 ≠ gb234))
               have n15_ := Aside0.mk ((nlq hg BK235 : gb235 ≠ gb241))
               have n16_ := Aside0.mk ((ngq hg BK235 : gb241 ≠ gb235))
               have n17_ := Aside0.mk ((nlq hg BK242 : gb242 ≠ gb241))
               have n18_ := Aside0.mk ((ngq hg BK242 : gb241 ≠ gb242))
               clear BK232 BK233 BK234 BK235 BK242 HB
               have BK232 := n0_
               have BK233 := n1_
               have BK234 := n2_
               have BK235 := n3_
               have BK242 := n4_
               have HB := n5_
               have BK241 := n6_
               have GW241 := n7_
               have GE241 := n8_
               have NB232_241 := n9_
               have NB241_232 := n10_
               have NB233_241 := n11_
               have NB241_233 := n12_
               have NB234_241 := n13_
               have NB241_234 := n14_
               have NB235_241 := n15_
               have NB241_235 := n16_
               have NB242_241 := n17_
               have NB241_242 := n18_
               clear n0_ n1_ n2_ n3_ n4_ n5_ n6_ n7_ n8_ n9_ n10_ n11_ n12_ n13_ n14_ n15_ n16_ n17_ n18_ hb hbox hg
               refine hK.out _ _ ⟨(blk_cell BK232.out 0).trans rfl, (blk_cell BK232.out 1).trans rfl, (blk_cell BK234.out 0).trans rfl, (blk_cell BK234.out 1).trans rfl, (blk_cell BK233.out 0).trans rfl, (blk_cell BK233.out 1).trans rfl, (blk_cell BK235.out 0).trans rfl, (blk_cell BK235.out 1).trans rfl⟩ (fun hHeld => ?_)
               clear hK K
               refine norm_ (a' := ?_) ?_ ?_
               rotate_left
               ·
                show Act.put _ (some 13) _ = _
                simp only [Act.put, List.setIfInBounds_toArray, List.set_cons_zero, List.set_cons_succ, i64_w, i32_w]
                rfl
               exact nq_ (hJ8_9 (gb241, gb242) _ ⟨hHeld, (bkq BK232), (bkq BK233), (bkq BK234), (bkq BK235), (bkq BK241), (bkq BK242), GW241.out, GE241.out, NB232_241.out, NB241_232.out, NB233_241.out, NB241_233.out, NB234_241.out, NB241_234.out, NB235_241.out, NB241_235.out, NB242_241.out, NB241_242.out, GW242.out, GE242.out, NB232_242.out, NB242_232.out, NB233_242.out, NB242_233.out, NB234_242.out, NB242_234.out, NB235_242.out, NB242_235.out, (hbq HB)⟩)
            ·
             skip
             rintro gb241 w21 ⟨hS_, h0_, h1_, h2_, h3_, h4_, h5_, h6_, h7_, h8_, h9_, h10_, h11_, h12_, h13_, h14_, h15_⟩
             have n0_ : Aside0 (w21.heap[gb232]? = some (.cells #[.int .u64 a2_0, .int .u64 a2_1] 24 (0, 0))) := ⟨h0_⟩
             have n1_ : Aside0 (w21.heap[gb233]? = some (.cells #[.int .u64 a3_0, .int .u64 a3_1] 24 (0, 0))) := ⟨h1_⟩
             have n2_ : Aside0 (w21.heap[gb234]? = some (.cells #[.int .u64 a4_0, .int .u64 a4_1] 24 (0, 0))) := ⟨h2_⟩
             have n3_ : Aside0 (w21.heap[gb235]? = some (.cells #[.int .u64 a5_0, .int .u64 a5_1] 24 (0, 0))) := ⟨h3_⟩
             have n4_ : Aside0 (w21.heap[gb241]? = some (.cells #[.int .u64 0, .int .u64 0] 24 (0, 0))) := ⟨h4_⟩
             have n5_ : Aside0 (w.heap.size ≤ gb241) := ⟨h5_⟩
             have n6_ : Aside0 (w.heap.size ≤ gb241) := ⟨h6_⟩
             have n7_ : Aside0 (gb232 ≠ gb241) := ⟨h7_⟩
             have n8_ : Aside0 (gb241 ≠ gb232) := ⟨h8_⟩
             have n9_ : Aside0 (gb233 ≠ gb241) := ⟨h9_⟩
             have n10_ : Aside0 (gb241 ≠ gb233) := ⟨h10_⟩
             have n11_ : Aside0 (gb234 ≠ gb241) := ⟨h11_⟩
             have n12_ : Aside0 (gb241 ≠ gb234) := ⟨h12_⟩
             have n13_ : Aside0 (gb235 ≠ gb241) := ⟨h13_⟩
             have n14_ : Aside0 (gb241 ≠ gb235) := ⟨h14_⟩
             have n15_ : Aside0 (Below w.heap.size w w21) := ⟨h15_⟩
             clear BK232 BK233 BK234 BK235 HB h0_ h1_ h2_ h3_ h4_ h5_ h6_ h7_ h8_ h9_ h10_ h11_ h12_ h13_ h14_ h15_
             have BK232 := n0_
             have BK233 := n1_
             have BK234 := n2_
             have BK235 := n3_
             have BK241 := n4_
             have GW241 := n5_
             have GE241 := n6_
             have NB232_241 := n7_
             have NB241_232 := n8_
             have NB233_241 := n9_
             have NB241_233 := n10_
             have NB234_241 := n11_
             have NB241_234 := n12_
             have NB235_241 := n13_
             have NB241_235 := n14_
             have HB := n15_
             clear n0_ n1_ n2_ n3_ n4_ n5_ n6_ n7_ n8_ n9_ n10_ n11_ n12_ n13_ n14_ n15_
             have hHeld : w21.cell? ⟨gb232, 0, none⟩ = some (.int .u64 a2_0) ∧ w21.cell? ⟨gb232, 1, none⟩ = some (.int .u64 a2_1) ∧ w21.cell? ⟨gb234, 0, none⟩ = some (.int .u64 a4_0) ∧ w21.cell? ⟨gb234, 1, none⟩ = some (.int .u64 a4_1) ∧ w21.cell? ⟨gb233, 0, none⟩ = some (.int .u64 a3_0) ∧ w21.cell? ⟨gb233, 1, none⟩ = some (.int .u64 a3_1) ∧ w21.cell? ⟨gb235, 0, none⟩ = some (.int .u64 a5_0) ∧ w21.cell? ⟨gb235, 1, none⟩ = some (.int .u64 a5_1) := hS_
             refine norm_ (a' := ?_) ?_ ?_
             rotate_left
             ·
              simp only [putAll, Act.put, List.setIfInBounds_toArray, List.set_cons_zero, List.set_cons_succ]
              rfl
             refine two_ (i := 3) (j := 9) (Ni := some 22) (Nj := some 14) backreachlaw11_SpanGrows.M24 backreachlaw11_SpanGrows.M15 rfl rfl rfl rfl (two_of HT_.out (by kernel_rfl)) (by decide) (by decide) (fun K hK => ?_) (fun K hK => ?_)
             ·
              skip
              refine goes_ Try.func15 (by kernel_rfl) rfl #[.int .i64 a1, .agg #[.int .u64 a2_0, .int .u64 a2_1], .agg #[.int .u64 a4_0, .int .u64 a4_1]] (by rfl) rfl rfl (by (try simp only [List.map_toArray, List.map_cons, List.map_nil]); first | done | rfl | (simp only [List.length_drop, List.length_take]; rfl)) ?_
              with_reducible refine (span_Join.calls a1 a2_0 a2_1 a4_0 a4_1 t237 t238 _ A9.out).mono ?_
              rintro e w22 ⟨rfl, hb⟩
              refine ⟨_, rfl, ?_⟩
              have n0_ := Aside0.mk (bbq BK232 hb)
              have n1_ := Aside0.mk (bbq BK233 hb)
              have n2_ := Aside0.mk (bbq BK234 hb)
              have n3_ := Aside0.mk (bbq BK235 hb)
              have n4_ := Aside0.mk (bbq BK241 hb)
              have n5_ := Aside0.mk (below_step (hbq HB) hb)
              clear BK232 BK233 BK234 BK235 BK241 HB
              have BK232 := n0_
              have BK233 := n1_
              have BK234 := n2_
              have BK235 := n3_
              have BK241 := n4_
              have HB := n5_
              clear n0_ n1_ n2_ n3_ n4_ n5_
              (try clear hb)
              (try clear hb2)
              (try clear hk)
              (try clear hi)
              refine hK.out _ _ ⟨(blk_cell BK232.out 0).trans rfl, (blk_cell BK232.out 1).trans rfl, (blk_cell BK234.out 0).trans rfl, (blk_cell BK234.out 1).trans rfl, (blk_cell BK233.out 0).trans rfl, (blk_cell BK233.out 1).trans rfl, (blk_cell BK235.out 0).trans rfl, (blk_cell BK235.out 1).trans rfl⟩ (fun hHeld => ?_)
              clear hK K
              refine norm_ (a' := ?_) ?_ ?_
              rotate_left
              ·
               show Act.put _ (some 22) _ = _
               simp only [Act.put, List.setIfInBounds_toArray, List.set_cons_zero, List.set_cons_succ, i64_w, i32_w]
               rfl
              exact nq_ (hJ3_8 (gb241) _ ⟨hHeld, (bkq BK232), (bkq BK233), (bkq BK234), (bkq BK235), (bkq BK241), GW241.out, GE241.out, NB232_241.out, NB241_232.out, NB233_241.out, NB241_233.out, NB234_241.out, NB241_234.out, NB235_241.out, NB241_235.out, (hbq HB)⟩)
             ·
              skip
              refine box_step ?hg (N := 14) ?hd (cs := #[.int .u64 0, .int .u64 0]) (t := 24) ?hr ?_; (case hd => rfl); (case hg => rfl); (case hr => first | (go_simp; done) | (go_simp; rfl))
              intro gb242 hg w22 hbox hb
              have n0_ := Aside0.mk (bbq BK232 hb)
              have n1_ := Aside0.mk (bbq BK233 hb)
              have n2_ := Aside0.mk (bbq BK234 hb)
              have n3_ := Aside0.mk (bbq BK235 hb)
              have n4_ := Aside0.mk (bbq BK241 hb)
              have n5_ := Aside0.mk (below_step (hbq HB) hb)
              have n6_ := Aside0.mk (hbox)
              have n7_ := Aside0.mk ((bsq hg HB : w.heap.size ≤ gb242))
              have n8_ := Aside0.mk ((bsq hg HB : w.heap.size ≤ gb242))
              have n9_ := Aside0.mk ((nlq hg BK232 : gb232 ≠ gb242))
              have n10_ := Aside0.mk ((ngq hg BK232 : gb242 ≠ gb232))
              have n11_ := Aside0.mk ((nlq hg BK233 : gb233 ≠ gb242))
              have n12_ := Aside0.mk ((ngq hg BK233 : gb242 ≠ gb233))
              have n13_ := Aside0.mk ((nlq hg BK234 : gb234 ≠ gb242))
              have n14_ := Aside0.mk ((ngq hg BK234 : gb242 ≠ gb234))
              have n15_ := Aside0.mk ((nlq hg BK235 : gb235 ≠ gb242))
              have n16_ := Aside0.mk ((ngq hg BK235 : gb242 ≠ gb235))
              have n17_ := Aside0.mk ((nlq hg BK241 : gb241 ≠ gb242))
              have n18_ := Aside0.mk ((ngq hg BK241 : gb242 ≠ gb241))
              clear BK232 BK233 BK234 BK235 BK241 HB
              have BK232 := n0_
              have BK233 := n1_
              have BK234 := n2_
              have BK235 := n3_
              have BK241 := n4_
              have HB := n5_
              have BK242 := n6_
              have GW242 := n7_
              have GE242 := n8_
              have NB232_242 := n9_
              have NB242_232 := n10_
              have NB233_242 := n11_
              have NB242_233 := n12_
              have NB234_242 := n13_
              have NB242_234 := n14_
              have NB235_242 := n15_
              have NB242_235 := n16_
              have NB241_242 := n17_
              have NB242_241 := n18_
              clear n0_ n1_ n2_ n3_ n4_ n5_ n6_ n7_ n8_ n9_ n10_ n11_ n12_ n13_ n14_ n15_ n16_ n17_ n18_ hb hbox hg
              refine hK.out _ _ ⟨(blk_cell BK232.out 0).trans rfl, (blk_cell BK232.out 1).trans rfl, (blk_cell BK234.out 0).trans rfl, (blk_cell BK234.out 1).trans rfl, (blk_cell BK233.out 0).trans rfl, (blk_cell BK233.out 1).trans rfl, (blk_cell BK235.out 0).trans rfl, (blk_cell BK235.out 1).trans rfl⟩ (fun hHeld => ?_)
              clear hK K
              refine norm_ (a' := ?_) ?_ ?_
              rotate_left
              ·
               show Act.put _ (some 14) _ = _
               simp only [Act.put, List.setIfInBounds_toArray, List.set_cons_zero, List.set_cons_succ, i64_w, i32_w]
               rfl
              exact nq_ (hJ8_9 (gb241, gb242) _ ⟨hHeld, (bkq BK232), (bkq BK233), (bkq BK234), (bkq BK235), (bkq BK241), (bkq BK242), GW241.out, GE241.out, NB232_241.out, NB241_232.out, NB233_241.out, NB241_233.out, NB234_241.out, NB241_234.out, NB235_241.out, NB241_235.out, NB242_241.out, NB241_242.out, GW242.out, GE242.out, NB232_242.out, NB242_232.out, NB233_242.out, NB242_233.out, NB234_242.out, NB242_234.out, NB235_242.out, NB242_235.out, (hbq HB)⟩)
           ·
            skip
            rintro _ w21 ⟨hS_, h0_, h1_, h2_, h3_, h4_⟩
            have n0_ : Aside0 (w21.heap[gb232]? = some (.cells #[.int .u64 a2_0, .int .u64 a2_1] 24 (0, 0))) := ⟨h0_⟩
            have n1_ : Aside0 (w21.heap[gb233]? = some (.cells #[.int .u64 a3_0, .int .u64 a3_1] 24 (0, 0))) := ⟨h1_⟩
            have n2_ : Aside0 (w21.heap[gb234]? = some (.cells #[.int .u64 a4_0, .int .u64 a4_1] 24 (0, 0))) := ⟨h2_⟩
            have n3_ : Aside0 (w21.heap[gb235]? = some (.cells #[.int .u64 a5_0, .int .u64 a5_1] 24 (0, 0))) := ⟨h3_⟩
            have n4_ : Aside0 (Below w.heap.size w w21) := ⟨h4_⟩
            clear BK232 BK233 BK234 BK235 HB h0_ h1_ h2_ h3_ h4_
            have BK232 := n0_
            have BK233 := n1_
            have BK234 := n2_
            have BK235 := n3_
            have HB := n4_
            clear n0_ n1_ n2_ n3_ n4_
            have hHeld : w21.cell? ⟨gb232, 0, none⟩ = some (.int .u64 a2_0) ∧ w21.cell? ⟨gb232, 1, none⟩ = some (.int .u64 a2_1) ∧ w21.cell? ⟨gb234, 0, none⟩ = some (.int .u64 a4_0) ∧ w21.cell? ⟨gb234, 1, none⟩ = some (.int .u64 a4_1) ∧ w21.cell? ⟨gb233, 0, none⟩ = some (.int .u64 a3_0) ∧ w21.cell? ⟨gb233, 1, none⟩ = some (.int .u64 a3_1) ∧ w21.cell? ⟨gb235, 0, none⟩ = some (.int .u64 a5_0) ∧ w21.cell? ⟨gb235, 1, none⟩ = some (.int .u64 a5_1) := hS_
            refine norm_ (a' := ?_) ?_ ?_
            rotate_left
            ·
             simp only [putAll, Act.put, List.setIfInBounds_toArray, List.set_cons_zero, List.set_cons_succ]
             rfl
            refine three_ (i := 7) (j := 8) (k := 9) (Ni := some 26) (Nj := some 13) (Nk := some 14) backreachlaw11_SpanGrows.M26 backreachlaw11_SpanGrows.M24 backreachlaw11_SpanGrows.M23 rfl rfl rfl rfl rfl rfl (three_of HT_.out (by kernel_rfl)) (by decide) (by decide) (by decide) (fun K hK => ?_) (fun K hK => ?_) (fun K hK => ?_)
            ·
             skip
             refine goes_ Try.func15 (by kernel_rfl) rfl #[.int .i64 a1, .agg #[.int .u64 a3_0, .int .u64 a3_1], .agg #[.int .u64 a5_0, .int .u64 a5_1]] (by rfl) rfl rfl (by (try simp only [List.map_toArray, List.map_cons, List.map_nil]); first | done | rfl | (simp only [List.length_drop, List.length_take]; rfl)) ?_
             with_reducible refine (span_Join.calls a1 a3_0 a3_1 a5_0 a5_1 t239 t240 _ A10.out).mono ?_
             rintro e w22 ⟨rfl, hb⟩
             refine ⟨_, rfl, ?_⟩
             have n0_ := Aside0.mk (bbq BK232 hb)
             have n1_ := Aside0.mk (bbq BK233 hb)
             have n2_ := Aside0.mk (bbq BK234 hb)
             have n3_ := Aside0.mk (bbq BK235 hb)
             have n4_ := Aside0.mk (below_step (hbq HB) hb)
             clear BK232 BK233 BK234 BK235 HB
             have BK232 := n0_
             have BK233 := n1_
             have BK234 := n2_
             have BK235 := n3_
             have HB := n4_
             clear n0_ n1_ n2_ n3_ n4_
             (try clear hb)
             (try clear hb2)
             (try clear hk)
             (try clear hi)
             refine hK.out _ _ ⟨(blk_cell BK232.out 0).trans rfl, (blk_cell BK232.out 1).trans rfl, (blk_cell BK234.out 0).trans rfl, (blk_cell BK234.out 1).trans rfl, (blk_cell BK233.out 0).trans rfl, (blk_cell BK233.out 1).trans rfl, (blk_cell BK235.out 0).trans rfl, (blk_cell BK235.out 1).trans rfl⟩ (fun hHeld => ?_)
             clear hK K
             refine norm_ (a' := ?_) ?_ ?_
             rotate_left
             ·
              show Act.put _ (some 26) _ = _
              simp only [Act.put, List.setIfInBounds_toArray, List.set_cons_zero, List.set_cons_succ, i64_w, i32_w]
              rfl
             exact nq_ (hJ3_7 () _ ⟨hHeld, (bkq BK232), (bkq BK233), (bkq BK234), (bkq BK235), (hbq HB)⟩)
            ·
             skip
             refine box_step ?hg (N := 13) ?hd (cs := #[.int .u64 0, .int .u64 0]) (t := 24) ?hr ?_; (case hd => rfl); (case hg => rfl); (case hr => first | (go_simp; done) | (go_simp; rfl))
             intro gb241 hg w22 hbox hb
             have n0_ := Aside0.mk (bbq BK232 hb)
             have n1_ := Aside0.mk (bbq BK233 hb)
             have n2_ := Aside0.mk (bbq BK234 hb)
             have n3_ := Aside0.mk (bbq BK235 hb)
             have n4_ := Aside0.mk (below_step (hbq HB) hb)
             have n5_ := Aside0.mk (hbox)
             have n6_ := Aside0.mk ((bsq hg HB : w.heap.size ≤ gb241))
             have n7_ := Aside0.mk ((bsq hg HB : w.heap.size ≤ gb241))
             have n8_ := Aside0.mk ((nlq hg BK232 : gb232 ≠ gb241))
             have n9_ := Aside0.mk ((ngq hg BK232 : gb241 ≠ gb232))
             have n10_ := Aside0.mk ((nlq hg BK233 : gb233 ≠ gb241))
             have n11_ := Aside0.mk ((ngq hg BK233 : gb241 ≠ gb233))
             have n12_ := Aside0.mk ((nlq hg BK234 : gb234 ≠ gb241))
             have n13_ := Aside0.mk ((ngq hg BK234 : gb241 ≠ gb234))
             have n14_ := Aside0.mk ((nlq hg BK235 : gb235 ≠ gb241))
             have n15_ := Aside0.mk ((ngq hg BK235 : gb241 ≠ gb235))
             clear BK232 BK233 BK234 BK235 HB
             have BK232 := n0_
             have BK233 := n1_
             have BK234 := n2_
             have BK235 := n3_
             have HB := n4_
             have BK241 := n5_
             have GW241 := n6_
             have GE241 := n7_
             have NB232_241 := n8_
             have NB241_232 := n9_
             have NB233_241 := n10_
             have NB241_233 := n11_
             have NB234_241 := n12_
             have NB241_234 := n13_
             have NB235_241 := n14_
             have NB241_235 := n15_
             clear n0_ n1_ n2_ n3_ n4_ n5_ n6_ n7_ n8_ n9_ n10_ n11_ n12_ n13_ n14_ n15_ hb hbox hg
             refine hK.out _ _ ⟨(blk_cell BK232.out 0).trans rfl, (blk_cell BK232.out 1).trans rfl, (blk_cell BK234.out 0).trans rfl, (blk_cell BK234.out 1).trans rfl, (blk_cell BK233.out 0).trans rfl, (blk_cell BK233.out 1).trans rfl, (blk_cell BK235.out 0).trans rfl, (blk_cell BK235.out 1).trans rfl⟩ (fun hHeld => ?_)
             clear hK K
             refine norm_ (a' := ?_) ?_ ?_
             rotate_left
             ·
              show Act.put _ (some 13) _ = _
              simp only [Act.put, List.setIfInBounds_toArray, List.set_cons_zero, List.set_cons_succ, i64_w, i32_w]
              rfl
             exact nq_ (hJ3_8 (gb241) _ ⟨hHeld, (bkq BK232), (bkq BK233), (bkq BK234), (bkq BK235), (bkq BK241), GW241.out, GE241.out, NB232_241.out, NB241_232.out, NB233_241.out, NB241_233.out, NB234_241.out, NB241_234.out, NB235_241.out, NB241_235.out, (hbq HB)⟩)
            ·
             skip
             refine box_step ?hg (N := 14) ?hd (cs := #[.int .u64 0, .int .u64 0]) (t := 24) ?hr ?_; (case hd => rfl); (case hg => rfl); (case hr => first | (go_simp; done) | (go_simp; rfl))
             intro gb242 hg w22 hbox hb
             have n0_ := Aside0.mk (bbq BK232 hb)
             have n1_ := Aside0.mk (bbq BK233 hb)
             have n2_ := Aside0.mk (bbq BK234 hb)
             have n3_ := Aside0.mk (bbq BK235 hb)
             have n4_ := Aside0.mk (below_step (hbq HB) hb)
             have n5_ := Aside0.mk (hbox)
             have n6_ := Aside0.mk ((bsq hg HB : w.heap.size ≤ gb242))
             have n7_ := Aside0.mk ((bsq hg HB : w.heap.size ≤ gb242))
             have n8_ := Aside0.mk ((nlq hg BK232 : gb232 ≠ gb242))
             have n9_ := Aside0.mk ((ngq hg BK232 : gb242 ≠ gb232))
             have n10_ := Aside0.mk ((nlq hg BK233 : gb233 ≠ gb242))
             have n11_ := Aside0.mk ((ngq hg BK233 : gb242 ≠ gb233))
             have n12_ := Aside0.mk ((nlq hg BK234 : gb234 ≠ gb242))
             have n13_ := Aside0.mk ((ngq hg BK234 : gb242 ≠ gb234))
             have n14_ := Aside0.mk ((nlq hg BK235 : gb235 ≠ gb242))
             have n15_ := Aside0.mk ((ngq hg BK235 : gb242 ≠ gb235))
             clear BK232 BK233 BK234 BK235 HB
             have BK232 := n0_
             have BK233 := n1_
             have BK234 := n2_
             have BK235 := n3_
             have HB := n4_
             have BK242 := n5_
             have GW242 := n6_
             have GE242 := n7_
             have NB232_242 := n8_
             have NB242_232 := n9_
             have NB233_242 := n10_
             have NB242_233 := n11_
             have NB234_242 := n12_
             have NB242_234 := n13_
             have NB235_242 := n14_
             have NB242_235 := n15_
             clear n0_ n1_ n2_ n3_ n4_ n5_ n6_ n7_ n8_ n9_ n10_ n11_ n12_ n13_ n14_ n15_ hb hbox hg
             refine hK.out _ _ ⟨(blk_cell BK232.out 0).trans rfl, (blk_cell BK232.out 1).trans rfl, (blk_cell BK234.out 0).trans rfl, (blk_cell BK234.out 1).trans rfl, (blk_cell BK233.out 0).trans rfl, (blk_cell BK233.out 1).trans rfl, (blk_cell BK235.out 0).trans rfl, (blk_cell BK235.out 1).trans rfl⟩ (fun hHeld => ?_)
             clear hK K
             refine norm_ (a' := ?_) ?_ ?_
             rotate_left
             ·
              show Act.put _ (some 14) _ = _
              simp only [Act.put, List.setIfInBounds_toArray, List.set_cons_zero, List.set_cons_succ, i64_w, i32_w]
              rfl
             exact nq_ (hJ3_9 (gb242) _ ⟨hHeld, (bkq BK232), (bkq BK233), (bkq BK234), (bkq BK235), (bkq BK242), GW242.out, GE242.out, NB232_242.out, NB242_232.out, NB233_242.out, NB242_233.out, NB234_242.out, NB242_234.out, NB235_242.out, NB242_235.out, (hbq HB)⟩)
          ·
           skip
           rintro ⟨gb241, gb242⟩ w22 ⟨hS_, h0_, h1_, h2_, h3_, h4_, h5_, h6_, h7_, h8_, h9_, h10_, h11_, h12_, h13_, h14_, h15_, h16_, h17_, h18_, h19_, h20_, h21_, h22_, h23_, h24_, h25_, h26_, h27_, h28_⟩
           have n0_ : Aside0 (w22.heap[gb232]? = some (.cells #[.int .u64 a2_0, .int .u64 a2_1] 24 (0, 0))) := ⟨h0_⟩
           have n1_ : Aside0 (w22.heap[gb233]? = some (.cells #[.int .u64 a3_0, .int .u64 a3_1] 24 (0, 0))) := ⟨h1_⟩
           have n2_ : Aside0 (w22.heap[gb234]? = some (.cells #[.int .u64 a4_0, .int .u64 a4_1] 24 (0, 0))) := ⟨h2_⟩
           have n3_ : Aside0 (w22.heap[gb235]? = some (.cells #[.int .u64 a5_0, .int .u64 a5_1] 24 (0, 0))) := ⟨h3_⟩
           have n4_ : Aside0 (w22.heap[gb241]? = some (.cells #[.int .u64 0, .int .u64 0] 24 (0, 0))) := ⟨h4_⟩
           have n5_ : Aside0 (w22.heap[gb242]? = some (.cells #[.int .u64 0, .int .u64 0] 24 (0, 0))) := ⟨h5_⟩
           have n6_ : Aside0 (w.heap.size ≤ gb241) := ⟨h6_⟩
           have n7_ : Aside0 (w.heap.size ≤ gb241) := ⟨h7_⟩
           have n8_ : Aside0 (gb232 ≠ gb241) := ⟨h8_⟩
           have n9_ : Aside0 (gb241 ≠ gb232) := ⟨h9_⟩
           have n10_ : Aside0 (gb233 ≠ gb241) := ⟨h10_⟩
           have n11_ : Aside0 (gb241 ≠ gb233) := ⟨h11_⟩
           have n12_ : Aside0 (gb234 ≠ gb241) := ⟨h12_⟩
           have n13_ : Aside0 (gb241 ≠ gb234) := ⟨h13_⟩
           have n14_ : Aside0 (gb235 ≠ gb241) := ⟨h14_⟩
           have n15_ : Aside0 (gb241 ≠ gb235) := ⟨h15_⟩
           have n16_ : Aside0 (gb242 ≠ gb241) := ⟨h16_⟩
           have n17_ : Aside0 (gb241 ≠ gb242) := ⟨h17_⟩
           have n18_ : Aside0 (w.heap.size ≤ gb242) := ⟨h18_⟩
           have n19_ : Aside0 (w.heap.size ≤ gb242) := ⟨h19_⟩
           have n20_ : Aside0 (gb232 ≠ gb242) := ⟨h20_⟩
           have n21_ : Aside0 (gb242 ≠ gb232) := ⟨h21_⟩
           have n22_ : Aside0 (gb233 ≠ gb242) := ⟨h22_⟩
           have n23_ : Aside0 (gb242 ≠ gb233) := ⟨h23_⟩
           have n24_ : Aside0 (gb234 ≠ gb242) := ⟨h24_⟩
           have n25_ : Aside0 (gb242 ≠ gb234) := ⟨h25_⟩
           have n26_ : Aside0 (gb235 ≠ gb242) := ⟨h26_⟩
           have n27_ : Aside0 (gb242 ≠ gb235) := ⟨h27_⟩
           have n28_ : Aside0 (Below w.heap.size w w22) := ⟨h28_⟩
           clear BK232 BK233 BK234 BK235 HB h0_ h1_ h2_ h3_ h4_ h5_ h6_ h7_ h8_ h9_ h10_ h11_ h12_ h13_ h14_ h15_ h16_ h17_ h18_ h19_ h20_ h21_ h22_ h23_ h24_ h25_ h26_ h27_ h28_
           have BK232 := n0_
           have BK233 := n1_
           have BK234 := n2_
           have BK235 := n3_
           have BK241 := n4_
           have BK242 := n5_
           have GW241 := n6_
           have GE241 := n7_
           have NB232_241 := n8_
           have NB241_232 := n9_
           have NB233_241 := n10_
           have NB241_233 := n11_
           have NB234_241 := n12_
           have NB241_234 := n13_
           have NB235_241 := n14_
           have NB241_235 := n15_
           have NB242_241 := n16_
           have NB241_242 := n17_
           have GW242 := n18_
           have GE242 := n19_
           have NB232_242 := n20_
           have NB242_232 := n21_
           have NB233_242 := n22_
           have NB242_233 := n23_
           have NB234_242 := n24_
           have NB242_234 := n25_
           have NB235_242 := n26_
           have NB242_235 := n27_
           have HB := n28_
           clear n0_ n1_ n2_ n3_ n4_ n5_ n6_ n7_ n8_ n9_ n10_ n11_ n12_ n13_ n14_ n15_ n16_ n17_ n18_ n19_ n20_ n21_ n22_ n23_ n24_ n25_ n26_ n27_ n28_
           have hHeld : w22.cell? ⟨gb232, 0, none⟩ = some (.int .u64 a2_0) ∧ w22.cell? ⟨gb232, 1, none⟩ = some (.int .u64 a2_1) ∧ w22.cell? ⟨gb234, 0, none⟩ = some (.int .u64 a4_0) ∧ w22.cell? ⟨gb234, 1, none⟩ = some (.int .u64 a4_1) ∧ w22.cell? ⟨gb233, 0, none⟩ = some (.int .u64 a3_0) ∧ w22.cell? ⟨gb233, 1, none⟩ = some (.int .u64 a3_1) ∧ w22.cell? ⟨gb235, 0, none⟩ = some (.int .u64 a5_0) ∧ w22.cell? ⟨gb235, 1, none⟩ = some (.int .u64 a5_1) := hS_
           refine norm_ (a' := ?_) ?_ ?_
           rotate_left
           ·
            simp only [putAll, Act.put, List.setIfInBounds_toArray, List.set_cons_zero, List.set_cons_succ]
            rfl
           refine one_ (i := 3) (N := some 22) backreachlaw11_SpanGrows.M25 rfl rfl (one_of HT_.out (by kernel_rfl)) (by decide) (fun K hK => ?_)
           refine goes_ Try.func15 (by kernel_rfl) rfl #[.int .i64 a1, .agg #[.int .u64 a2_0, .int .u64 a2_1], .agg #[.int .u64 a4_0, .int .u64 a4_1]] (by rfl) rfl rfl (by (try simp only [List.map_toArray, List.map_cons, List.map_nil]); first | done | rfl | (simp only [List.length_drop, List.length_take]; rfl)) ?_
           with_reducible refine (span_Join.calls a1 a2_0 a2_1 a4_0 a4_1 t237 t238 _ A9.out).mono ?_
           rintro e w23 ⟨rfl, hb⟩
           refine ⟨_, rfl, ?_⟩
           have n0_ := Aside0.mk (bbq BK232 hb)
           have n1_ := Aside0.mk (bbq BK233 hb)
           have n2_ := Aside0.mk (bbq BK234 hb)
           have n3_ := Aside0.mk (bbq BK235 hb)
           have n4_ := Aside0.mk (bbq BK241 hb)
           have n5_ := Aside0.mk (bbq BK242 hb)
           have n6_ := Aside0.mk (below_step (hbq HB) hb)
           clear BK232 BK233 BK234 BK235 BK241 BK242 HB
           have BK232 := n0_
           have BK233 := n1_
           have BK234 := n2_
           have BK235 := n3_
           have BK241 := n4_
           have BK242 := n5_
           have HB := n6_
           clear n0_ n1_ n2_ n3_ n4_ n5_ n6_
           (try clear hb)
           (try clear hb2)
           (try clear hk)
           (try clear hi)
           refine hK.out _ _ ⟨(blk_cell BK232.out 0).trans rfl, (blk_cell BK232.out 1).trans rfl, (blk_cell BK234.out 0).trans rfl, (blk_cell BK234.out 1).trans rfl, (blk_cell BK233.out 0).trans rfl, (blk_cell BK233.out 1).trans rfl, (blk_cell BK235.out 0).trans rfl, (blk_cell BK235.out 1).trans rfl⟩ (fun hHeld => ?_)
           clear hK K
           refine norm_ (a' := ?_) ?_ ?_
           rotate_left
           ·
            show Act.put _ (some 22) _ = _
            simp only [Act.put, List.setIfInBounds_toArray, List.set_cons_zero, List.set_cons_succ, i64_w, i32_w]
            rfl
           exact nq_ (hJ3_8_9 (gb241, gb242) _ ⟨hHeld, (bkq BK232), (bkq BK233), (bkq BK234), (bkq BK235), (bkq BK241), (bkq BK242), GW241.out, GE241.out, NB232_241.out, NB241_232.out, NB233_241.out, NB241_233.out, NB234_241.out, NB241_234.out, NB235_241.out, NB241_235.out, NB242_241.out, NB241_242.out, GW242.out, GE242.out, NB232_242.out, NB242_232.out, NB233_242.out, NB242_233.out, NB234_242.out, NB242_234.out, NB235_242.out, NB242_235.out, (hbq HB)⟩)
         ·
          skip
          rintro gb242 w22 ⟨hS_, h0_, h1_, h2_, h3_, h4_, h5_, h6_, h7_, h8_, h9_, h10_, h11_, h12_, h13_, h14_, h15_⟩
          have n0_ : Aside0 (w22.heap[gb232]? = some (.cells #[.int .u64 a2_0, .int .u64 a2_1] 24 (0, 0))) := ⟨h0_⟩
          have n1_ : Aside0 (w22.heap[gb233]? = some (.cells #[.int .u64 a3_0, .int .u64 a3_1] 24 (0, 0))) := ⟨h1_⟩
          have n2_ : Aside0 (w22.heap[gb234]? = some (.cells #[.int .u64 a4_0, .int .u64 a4_1] 24 (0, 0))) := ⟨h2_⟩
          have n3_ : Aside0 (w22.heap[gb235]? = some (.cells #[.int .u64 a5_0, .int .u64 a5_1] 24 (0, 0))) := ⟨h3_⟩
          have n4_ : Aside0 (w22.heap[gb242]? = some (.cells #[.int .u64 0, .int .u64 0] 24 (0, 0))) := ⟨h4_⟩
          have n5_ : Aside0 (w.heap.size ≤ gb242) := ⟨h5_⟩
          have n6_ : Aside0 (w.heap.size ≤ gb242) := ⟨h6_⟩
          have n7_ : Aside0 (gb232 ≠ gb242) := ⟨h7_⟩
          have n8_ : Aside0 (gb242 ≠ gb232) := ⟨h8_⟩
          have n9_ : Aside0 (gb233 ≠ gb242) := ⟨h9_⟩
          have n10_ : Aside0 (gb242 ≠ gb233) := ⟨h10_⟩
          have n11_ : Aside0 (gb234 ≠ gb242) := ⟨h11_⟩
          have n12_ : Aside0 (gb242 ≠ gb234) := ⟨h12_⟩
          have n13_ : Aside0 (gb235 ≠ gb242) := ⟨h13_⟩
          have n14_ : Aside0 (gb242 ≠ gb235) := ⟨h14_⟩
          have n15_ : Aside0 (Below w.heap.size w w22) := ⟨h15_⟩
          clear BK232 BK233 BK234 BK235 HB h0_ h1_ h2_ h3_ h4_ h5_ h6_ h7_ h8_ h9_ h10_ h11_ h12_ h13_ h14_ h15_
          have BK232 := n0_
          have BK233 := n1_
          have BK234 := n2_
          have BK235 := n3_
          have BK242 := n4_
          have GW242 := n5_
          have GE242 := n6_
          have NB232_242 := n7_
          have NB242_232 := n8_
          have NB233_242 := n9_
          have NB242_233 := n10_
          have NB234_242 := n11_
          have NB242_234 := n12_
          have NB235_242 := n13_
          have NB242_235 := n14_
          have HB := n15_
          clear n0_ n1_ n2_ n3_ n4_ n5_ n6_ n7_ n8_ n9_ n10_ n11_ n12_ n13_ n14_ n15_
          have hHeld : w22.cell? ⟨gb232, 0, none⟩ = some (.int .u64 a2_0) ∧ w22.cell? ⟨gb232, 1, none⟩ = some (.int .u64 a2_1) ∧ w22.cell? ⟨gb234, 0, none⟩ = some (.int .u64 a4_0) ∧ w22.cell? ⟨gb234, 1, none⟩ = some (.int .u64 a4_1) ∧ w22.cell? ⟨gb233, 0, none⟩ = some (.int .u64 a3_0) ∧ w22.cell? ⟨gb233, 1, none⟩ = some (.int .u64 a3_1) ∧ w22.cell? ⟨gb235, 0, none⟩ = some (.int .u64 a5_0) ∧ w22.cell? ⟨gb235, 1, none⟩ = some (.int .u64 a5_1) := hS_
          refine norm_ (a' := ?_) ?_ ?_
          rotate_left
          ·
           simp only [putAll, Act.put, List.setIfInBounds_toArray, List.set_cons_zero, List.set_cons_succ]
           rfl
          refine two_ (i := 7) (j := 8) (Ni := some 26) (Nj := some 13) backreachlaw11_SpanGrows.M27 backreachlaw11_SpanGrows.M25 rfl rfl rfl rfl (two_of HT_.out (by kernel_rfl)) (by decide) (by decide) (fun K hK => ?_) (fun K hK => ?_)
          ·
           skip
           refine goes_ Try.func15 (by kernel_rfl) rfl #[.int .i64 a1, .agg #[.int .u64 a3_0, .int .u64 a3_1], .agg #[.int .u64 a5_0, .int .u64 a5_1]] (by rfl) rfl rfl (by (try simp only [List.map_toArray, List.map_cons, List.map_nil]); first | done | rfl | (simp only [List.length_drop, List.length_take]; rfl)) ?_
           with_reducible refine (span_Join.calls a1 a3_0 a3_1 a5_0 a5_1 t239 t240 _ A10.out).mono ?_
           rintro e w23 ⟨rfl, hb⟩
           refine ⟨_, rfl, ?_⟩
           have n0_ := Aside0.mk (bbq BK232 hb)
           have n1_ := Aside0.mk (bbq BK233 hb)
           have n2_ := Aside0.mk (bbq BK234 hb)
           have n3_ := Aside0.mk (bbq BK235 hb)
           have n4_ := Aside0.mk (bbq BK242 hb)
           have n5_ := Aside0.mk (below_step (hbq HB) hb)
           clear BK232 BK233 BK234 BK235 BK242 HB
           have BK232 := n0_
           have BK233 := n1_
           have BK234 := n2_
           have BK235 := n3_
           have BK242 := n4_
           have HB := n5_
           clear n0_ n1_ n2_ n3_ n4_ n5_
           (try clear hb)
           (try clear hb2)
           (try clear hk)
           (try clear hi)
           refine hK.out _ _ ⟨(blk_cell BK232.out 0).trans rfl, (blk_cell BK232.out 1).trans rfl, (blk_cell BK234.out 0).trans rfl, (blk_cell BK234.out 1).trans rfl, (blk_cell BK233.out 0).trans rfl, (blk_cell BK233.out 1).trans rfl, (blk_cell BK235.out 0).trans rfl, (blk_cell BK235.out 1).trans rfl⟩ (fun hHeld => ?_)
           clear hK K
           refine norm_ (a' := ?_) ?_ ?_
           rotate_left
           ·
            show Act.put _ (some 26) _ = _
            simp only [Act.put, List.setIfInBounds_toArray, List.set_cons_zero, List.set_cons_succ, i64_w, i32_w]
            rfl
           exact nq_ (hJ3_7_9 (gb242) _ ⟨hHeld, (bkq BK232), (bkq BK233), (bkq BK234), (bkq BK235), (bkq BK242), GW242.out, GE242.out, NB232_242.out, NB242_232.out, NB233_242.out, NB242_233.out, NB234_242.out, NB242_234.out, NB235_242.out, NB242_235.out, (hbq HB)⟩)
          ·
           skip
           refine box_step ?hg (N := 13) ?hd (cs := #[.int .u64 0, .int .u64 0]) (t := 24) ?hr ?_; (case hd => rfl); (case hg => rfl); (case hr => first | (go_simp; done) | (go_simp; rfl))
           intro gb241 hg w23 hbox hb
           have n0_ := Aside0.mk (bbq BK232 hb)
           have n1_ := Aside0.mk (bbq BK233 hb)
           have n2_ := Aside0.mk (bbq BK234 hb)
           have n3_ := Aside0.mk (bbq BK235 hb)
           have n4_ := Aside0.mk (bbq BK242 hb)
           have n5_ := Aside0.mk (below_step (hbq HB) hb)
           have n6_ := Aside0.mk (hbox)
           have n7_ := Aside0.mk ((bsq hg HB : w.heap.size ≤ gb241))
           have n8_ := Aside0.mk ((bsq hg HB : w.heap.size ≤ gb241))
           have n9_ := Aside0.mk ((nlq hg BK232 : gb232 ≠ gb241))
           have n10_ := Aside0.mk ((ngq hg BK232 : gb241 ≠ gb232))
           have n11_ := Aside0.mk ((nlq hg BK233 : gb233 ≠ gb241))
           have n12_ := Aside0.mk ((ngq hg BK233 : gb241 ≠ gb233))
           have n13_ := Aside0.mk ((nlq hg BK234 : gb234 ≠ gb241))
           have n14_ := Aside0.mk ((ngq hg BK234 : gb241 ≠ gb234))
           have n15_ := Aside0.mk ((nlq hg BK235 : gb235 ≠ gb241))
           have n16_ := Aside0.mk ((ngq hg BK235 : gb241 ≠ gb235))
           have n17_ := Aside0.mk ((nlq hg BK242 : gb242 ≠ gb241))
           have n18_ := Aside0.mk ((ngq hg BK242 : gb241 ≠ gb242))
           clear BK232 BK233 BK234 BK235 BK242 HB
           have BK232 := n0_
           have BK233 := n1_
           have BK234 := n2_
           have BK235 := n3_
           have BK242 := n4_
           have HB := n5_
           have BK241 := n6_
           have GW241 := n7_
           have GE241 := n8_
           have NB232_241 := n9_
           have NB241_232 := n10_
           have NB233_241 := n11_
           have NB241_233 := n12_
           have NB234_241 := n13_
           have NB241_234 := n14_
           have NB235_241 := n15_
           have NB241_235 := n16_
           have NB242_241 := n17_
           have NB241_242 := n18_
           clear n0_ n1_ n2_ n3_ n4_ n5_ n6_ n7_ n8_ n9_ n10_ n11_ n12_ n13_ n14_ n15_ n16_ n17_ n18_ hb hbox hg
           refine hK.out _ _ ⟨(blk_cell BK232.out 0).trans rfl, (blk_cell BK232.out 1).trans rfl, (blk_cell BK234.out 0).trans rfl, (blk_cell BK234.out 1).trans rfl, (blk_cell BK233.out 0).trans rfl, (blk_cell BK233.out 1).trans rfl, (blk_cell BK235.out 0).trans rfl, (blk_cell BK235.out 1).trans rfl⟩ (fun hHeld => ?_)
           clear hK K
           refine norm_ (a' := ?_) ?_ ?_
           rotate_left
           ·
            show Act.put _ (some 13) _ = _
            simp only [Act.put, List.setIfInBounds_toArray, List.set_cons_zero, List.set_cons_succ, i64_w, i32_w]
            rfl
           exact nq_ (hJ3_8_9 (gb241, gb242) _ ⟨hHeld, (bkq BK232), (bkq BK233), (bkq BK234), (bkq BK235), (bkq BK241), (bkq BK242), GW241.out, GE241.out, NB232_241.out, NB241_232.out, NB233_241.out, NB241_233.out, NB234_241.out, NB241_234.out, NB235_241.out, NB241_235.out, NB242_241.out, NB241_242.out, GW242.out, GE242.out, NB232_242.out, NB242_232.out, NB233_242.out, NB242_233.out, NB234_242.out, NB242_234.out, NB235_242.out, NB242_235.out, (hbq HB)⟩)
        ·
         skip
         rintro gb241 w22 ⟨hS_, h0_, h1_, h2_, h3_, h4_, h5_, h6_, h7_, h8_, h9_, h10_, h11_, h12_, h13_, h14_, h15_⟩
         have n0_ : Aside0 (w22.heap[gb232]? = some (.cells #[.int .u64 a2_0, .int .u64 a2_1] 24 (0, 0))) := ⟨h0_⟩
         have n1_ : Aside0 (w22.heap[gb233]? = some (.cells #[.int .u64 a3_0, .int .u64 a3_1] 24 (0, 0))) := ⟨h1_⟩
         have n2_ : Aside0 (w22.heap[gb234]? = some (.cells #[.int .u64 a4_0, .int .u64 a4_1] 24 (0, 0))) := ⟨h2_⟩
         have n3_ : Aside0 (w22.heap[gb235]? = some (.cells #[.int .u64 a5_0, .int .u64 a5_1] 24 (0, 0))) := ⟨h3_⟩
         have n4_ : Aside0 (w22.heap[gb241]? = some (.cells #[.int .u64 0, .int .u64 0] 24 (0, 0))) := ⟨h4_⟩
         have n5_ : Aside0 (w.heap.size ≤ gb241) := ⟨h5_⟩
         have n6_ : Aside0 (w.heap.size ≤ gb241) := ⟨h6_⟩
         have n7_ : Aside0 (gb232 ≠ gb241) := ⟨h7_⟩
         have n8_ : Aside0 (gb241 ≠ gb232) := ⟨h8_⟩
         have n9_ : Aside0 (gb233 ≠ gb241) := ⟨h9_⟩
         have n10_ : Aside0 (gb241 ≠ gb233) := ⟨h10_⟩
         have n11_ : Aside0 (gb234 ≠ gb241) := ⟨h11_⟩
         have n12_ : Aside0 (gb241 ≠ gb234) := ⟨h12_⟩
         have n13_ : Aside0 (gb235 ≠ gb241) := ⟨h13_⟩
         have n14_ : Aside0 (gb241 ≠ gb235) := ⟨h14_⟩
         have n15_ : Aside0 (Below w.heap.size w w22) := ⟨h15_⟩
         clear BK232 BK233 BK234 BK235 HB h0_ h1_ h2_ h3_ h4_ h5_ h6_ h7_ h8_ h9_ h10_ h11_ h12_ h13_ h14_ h15_
         have BK232 := n0_
         have BK233 := n1_
         have BK234 := n2_
         have BK235 := n3_
         have BK241 := n4_
         have GW241 := n5_
         have GE241 := n6_
         have NB232_241 := n7_
         have NB241_232 := n8_
         have NB233_241 := n9_
         have NB241_233 := n10_
         have NB234_241 := n11_
         have NB241_234 := n12_
         have NB235_241 := n13_
         have NB241_235 := n14_
         have HB := n15_
         clear n0_ n1_ n2_ n3_ n4_ n5_ n6_ n7_ n8_ n9_ n10_ n11_ n12_ n13_ n14_ n15_
         have hHeld : w22.cell? ⟨gb232, 0, none⟩ = some (.int .u64 a2_0) ∧ w22.cell? ⟨gb232, 1, none⟩ = some (.int .u64 a2_1) ∧ w22.cell? ⟨gb234, 0, none⟩ = some (.int .u64 a4_0) ∧ w22.cell? ⟨gb234, 1, none⟩ = some (.int .u64 a4_1) ∧ w22.cell? ⟨gb233, 0, none⟩ = some (.int .u64 a3_0) ∧ w22.cell? ⟨gb233, 1, none⟩ = some (.int .u64 a3_1) ∧ w22.cell? ⟨gb235, 0, none⟩ = some (.int .u64 a5_0) ∧ w22.cell? ⟨gb235, 1, none⟩ = some (.int .u64 a5_1) := hS_
         refine norm_ (a' := ?_) ?_ ?_
         rotate_left
         ·
          simp only [putAll, Act.put, List.setIfInBounds_toArray, List.set_cons_zero, List.set_cons_succ]
          rfl
         refine two_ (i := 7) (j := 9) (Ni := some 26) (Nj := some 14) backreachlaw11_SpanGrows.M29 backreachlaw11_SpanGrows.M25 rfl rfl rfl rfl (two_of HT_.out (by kernel_rfl)) (by decide) (by decide) (fun K hK => ?_) (fun K hK => ?_)
         ·
          skip
          refine goes_ Try.func15 (by kernel_rfl) rfl #[.int .i64 a1, .agg #[.int .u64 a3_0, .int .u64 a3_1], .agg #[.int .u64 a5_0, .int .u64 a5_1]] (by rfl) rfl rfl (by (try simp only [List.map_toArray, List.map_cons, List.map_nil]); first | done | rfl | (simp only [List.length_drop, List.length_take]; rfl)) ?_
          with_reducible refine (span_Join.calls a1 a3_0 a3_1 a5_0 a5_1 t239 t240 _ A10.out).mono ?_
          rintro e w23 ⟨rfl, hb⟩
          refine ⟨_, rfl, ?_⟩
          have n0_ := Aside0.mk (bbq BK232 hb)
          have n1_ := Aside0.mk (bbq BK233 hb)
          have n2_ := Aside0.mk (bbq BK234 hb)
          have n3_ := Aside0.mk (bbq BK235 hb)
          have n4_ := Aside0.mk (bbq BK241 hb)
          have n5_ := Aside0.mk (below_step (hbq HB) hb)
          clear BK232 BK233 BK234 BK235 BK241 HB
          have BK232 := n0_
          have BK233 := n1_
          have BK234 := n2_
          have BK235 := n3_
          have BK241 := n4_
          have HB := n5_
          clear n0_ n1_ n2_ n3_ n4_ n5_
          (try clear hb)
          (try clear hb2)
          (try clear hk)
          (try clear hi)
          refine hK.out _ _ ⟨(blk_cell BK232.out 0).trans rfl, (blk_cell BK232.out 1).trans rfl, (blk_cell BK234.out 0).trans rfl, (blk_cell BK234.out 1).trans rfl, (blk_cell BK233.out 0).trans rfl, (blk_cell BK233.out 1).trans rfl, (blk_cell BK235.out 0).trans rfl, (blk_cell BK235.out 1).trans rfl⟩ (fun hHeld => ?_)
          clear hK K
          refine norm_ (a' := ?_) ?_ ?_
          rotate_left
          ·
           show Act.put _ (some 26) _ = _
           simp only [Act.put, List.setIfInBounds_toArray, List.set_cons_zero, List.set_cons_succ, i64_w, i32_w]
           rfl
          exact nq_ (hJ3_7_8 (gb241) _ ⟨hHeld, (bkq BK232), (bkq BK233), (bkq BK234), (bkq BK235), (bkq BK241), GW241.out, GE241.out, NB232_241.out, NB241_232.out, NB233_241.out, NB241_233.out, NB234_241.out, NB241_234.out, NB235_241.out, NB241_235.out, (hbq HB)⟩)
         ·
          skip
          refine box_step ?hg (N := 14) ?hd (cs := #[.int .u64 0, .int .u64 0]) (t := 24) ?hr ?_; (case hd => rfl); (case hg => rfl); (case hr => first | (go_simp; done) | (go_simp; rfl))
          intro gb242 hg w23 hbox hb
          have n0_ := Aside0.mk (bbq BK232 hb)
          have n1_ := Aside0.mk (bbq BK233 hb)
          have n2_ := Aside0.mk (bbq BK234 hb)
          have n3_ := Aside0.mk (bbq BK235 hb)
          have n4_ := Aside0.mk (bbq BK241 hb)
          have n5_ := Aside0.mk (below_step (hbq HB) hb)
          have n6_ := Aside0.mk (hbox)
          have n7_ := Aside0.mk ((bsq hg HB : w.heap.size ≤ gb242))
          have n8_ := Aside0.mk ((bsq hg HB : w.heap.size ≤ gb242))
          have n9_ := Aside0.mk ((nlq hg BK232 : gb232 ≠ gb242))
          have n10_ := Aside0.mk ((ngq hg BK232 : gb242 ≠ gb232))
          have n11_ := Aside0.mk ((nlq hg BK233 : gb233 ≠ gb242))
          have n12_ := Aside0.mk ((ngq hg BK233 : gb242 ≠ gb233))
          have n13_ := Aside0.mk ((nlq hg BK234 : gb234 ≠ gb242))
          have n14_ := Aside0.mk ((ngq hg BK234 : gb242 ≠ gb234))
          have n15_ := Aside0.mk ((nlq hg BK235 : gb235 ≠ gb242))
          have n16_ := Aside0.mk ((ngq hg BK235 : gb242 ≠ gb235))
          have n17_ := Aside0.mk ((nlq hg BK241 : gb241 ≠ gb242))
          have n18_ := Aside0.mk ((ngq hg BK241 : gb242 ≠ gb241))
          clear BK232 BK233 BK234 BK235 BK241 HB
          have BK232 := n0_
          have BK233 := n1_
          have BK234 := n2_
          have BK235 := n3_
          have BK241 := n4_
          have HB := n5_
          have BK242 := n6_
          have GW242 := n7_
          have GE242 := n8_
          have NB232_242 := n9_
          have NB242_232 := n10_
          have NB233_242 := n11_
          have NB242_233 := n12_
          have NB234_242 := n13_
          have NB242_234 := n14_
          have NB235_242 := n15_
          have NB242_235 := n16_
          have NB241_242 := n17_
          have NB242_241 := n18_
          clear n0_ n1_ n2_ n3_ n4_ n5_ n6_ n7_ n8_ n9_ n10_ n11_ n12_ n13_ n14_ n15_ n16_ n17_ n18_ hb hbox hg
          refine hK.out _ _ ⟨(blk_cell BK232.out 0).trans rfl, (blk_cell BK232.out 1).trans rfl, (blk_cell BK234.out 0).trans rfl, (blk_cell BK234.out 1).trans rfl, (blk_cell BK233.out 0).trans rfl, (blk_cell BK233.out 1).trans rfl, (blk_cell BK235.out 0).trans rfl, (blk_cell BK235.out 1).trans rfl⟩ (fun hHeld => ?_)
          clear hK K
          refine norm_ (a' := ?_) ?_ ?_
          rotate_left
          ·
           show Act.put _ (some 14) _ = _
           simp only [Act.put, List.setIfInBounds_toArray, List.set_cons_zero, List.set_cons_succ, i64_w, i32_w]
           rfl
          exact nq_ (hJ3_8_9 (gb241, gb242) _ ⟨hHeld, (bkq BK232), (bkq BK233), (bkq BK234), (bkq BK235), (bkq BK241), (bkq BK242), GW241.out, GE241.out, NB232_241.out, NB241_232.out, NB233_241.out, NB241_233.out, NB234_241.out, NB241_234.out, NB235_241.out, NB241_235.out, NB242_241.out, NB241_242.out, GW242.out, GE242.out, NB232_242.out, NB242_232.out, NB233_242.out, NB242_233.out, NB234_242.out, NB242_234.out, NB235_242.out, NB242_235.out, (hbq HB)⟩)
       ·
        skip
        rintro _ w22 ⟨hS_, h0_, h1_, h2_, h3_, h4_⟩
        have n0_ : Aside0 (w22.heap[gb232]? = some (.cells #[.int .u64 a2_0, .int .u64 a2_1] 24 (0, 0))) := ⟨h0_⟩
        have n1_ : Aside0 (w22.heap[gb233]? = some (.cells #[.int .u64 a3_0, .int .u64 a3_1] 24 (0, 0))) := ⟨h1_⟩
        have n2_ : Aside0 (w22.heap[gb234]? = some (.cells #[.int .u64 a4_0, .int .u64 a4_1] 24 (0, 0))) := ⟨h2_⟩
        have n3_ : Aside0 (w22.heap[gb235]? = some (.cells #[.int .u64 a5_0, .int .u64 a5_1] 24 (0, 0))) := ⟨h3_⟩
        have n4_ : Aside0 (Below w.heap.size w w22) := ⟨h4_⟩
        clear BK232 BK233 BK234 BK235 HB h0_ h1_ h2_ h3_ h4_
        have BK232 := n0_
        have BK233 := n1_
        have BK234 := n2_
        have BK235 := n3_
        have HB := n4_
        clear n0_ n1_ n2_ n3_ n4_
        have hHeld : w22.cell? ⟨gb232, 0, none⟩ = some (.int .u64 a2_0) ∧ w22.cell? ⟨gb232, 1, none⟩ = some (.int .u64 a2_1) ∧ w22.cell? ⟨gb234, 0, none⟩ = some (.int .u64 a4_0) ∧ w22.cell? ⟨gb234, 1, none⟩ = some (.int .u64 a4_1) ∧ w22.cell? ⟨gb233, 0, none⟩ = some (.int .u64 a3_0) ∧ w22.cell? ⟨gb233, 1, none⟩ = some (.int .u64 a3_1) ∧ w22.cell? ⟨gb235, 0, none⟩ = some (.int .u64 a5_0) ∧ w22.cell? ⟨gb235, 1, none⟩ = some (.int .u64 a5_1) := hS_
        refine norm_ (a' := ?_) ?_ ?_
        rotate_left
        ·
         simp only [putAll, Act.put, List.setIfInBounds_toArray, List.set_cons_zero, List.set_cons_succ]
         rfl
        refine two_ (i := 8) (j := 9) (Ni := some 13) (Nj := some 14) backreachlaw11_SpanGrows.M29 backreachlaw11_SpanGrows.M27 rfl rfl rfl rfl (two_of HT_.out (by kernel_rfl)) (by decide) (by decide) (fun K hK => ?_) (fun K hK => ?_)
        ·
         skip
         refine box_step ?hg (N := 13) ?hd (cs := #[.int .u64 0, .int .u64 0]) (t := 24) ?hr ?_; (case hd => rfl); (case hg => rfl); (case hr => first | (go_simp; done) | (go_simp; rfl))
         intro gb241 hg w23 hbox hb
         have n0_ := Aside0.mk (bbq BK232 hb)
         have n1_ := Aside0.mk (bbq BK233 hb)
         have n2_ := Aside0.mk (bbq BK234 hb)
         have n3_ := Aside0.mk (bbq BK235 hb)
         have n4_ := Aside0.mk (below_step (hbq HB) hb)
         have n5_ := Aside0.mk (hbox)
         have n6_ := Aside0.mk ((bsq hg HB : w.heap.size ≤ gb241))
         have n7_ := Aside0.mk ((bsq hg HB : w.heap.size ≤ gb241))
         have n8_ := Aside0.mk ((nlq hg BK232 : gb232 ≠ gb241))
         have n9_ := Aside0.mk ((ngq hg BK232 : gb241 ≠ gb232))
         have n10_ := Aside0.mk ((nlq hg BK233 : gb233 ≠ gb241))
         have n11_ := Aside0.mk ((ngq hg BK233 : gb241 ≠ gb233))
         have n12_ := Aside0.mk ((nlq hg BK234 : gb234 ≠ gb241))
         have n13_ := Aside0.mk ((ngq hg BK234 : gb241 ≠ gb234))
         have n14_ := Aside0.mk ((nlq hg BK235 : gb235 ≠ gb241))
         have n15_ := Aside0.mk ((ngq hg BK235 : gb241 ≠ gb235))
         clear BK232 BK233 BK234 BK235 HB
         have BK232 := n0_
         have BK233 := n1_
         have BK234 := n2_
         have BK235 := n3_
         have HB := n4_
         have BK241 := n5_
         have GW241 := n6_
         have GE241 := n7_
         have NB232_241 := n8_
         have NB241_232 := n9_
         have NB233_241 := n10_
         have NB241_233 := n11_
         have NB234_241 := n12_
         have NB241_234 := n13_
         have NB235_241 := n14_
         have NB241_235 := n15_
         clear n0_ n1_ n2_ n3_ n4_ n5_ n6_ n7_ n8_ n9_ n10_ n11_ n12_ n13_ n14_ n15_ hb hbox hg
         refine hK.out _ _ ⟨(blk_cell BK232.out 0).trans rfl, (blk_cell BK232.out 1).trans rfl, (blk_cell BK234.out 0).trans rfl, (blk_cell BK234.out 1).trans rfl, (blk_cell BK233.out 0).trans rfl, (blk_cell BK233.out 1).trans rfl, (blk_cell BK235.out 0).trans rfl, (blk_cell BK235.out 1).trans rfl⟩ (fun hHeld => ?_)
         clear hK K
         refine norm_ (a' := ?_) ?_ ?_
         rotate_left
         ·
          show Act.put _ (some 13) _ = _
          simp only [Act.put, List.setIfInBounds_toArray, List.set_cons_zero, List.set_cons_succ, i64_w, i32_w]
          rfl
         exact nq_ (hJ3_7_8 (gb241) _ ⟨hHeld, (bkq BK232), (bkq BK233), (bkq BK234), (bkq BK235), (bkq BK241), GW241.out, GE241.out, NB232_241.out, NB241_232.out, NB233_241.out, NB241_233.out, NB234_241.out, NB241_234.out, NB235_241.out, NB241_235.out, (hbq HB)⟩)
        ·
         skip
         refine box_step ?hg (N := 14) ?hd (cs := #[.int .u64 0, .int .u64 0]) (t := 24) ?hr ?_; (case hd => rfl); (case hg => rfl); (case hr => first | (go_simp; done) | (go_simp; rfl))
         intro gb242 hg w23 hbox hb
         have n0_ := Aside0.mk (bbq BK232 hb)
         have n1_ := Aside0.mk (bbq BK233 hb)
         have n2_ := Aside0.mk (bbq BK234 hb)
         have n3_ := Aside0.mk (bbq BK235 hb)
         have n4_ := Aside0.mk (below_step (hbq HB) hb)
         have n5_ := Aside0.mk (hbox)
         have n6_ := Aside0.mk ((bsq hg HB : w.heap.size ≤ gb242))
         have n7_ := Aside0.mk ((bsq hg HB : w.heap.size ≤ gb242))
         have n8_ := Aside0.mk ((nlq hg BK232 : gb232 ≠ gb242))
         have n9_ := Aside0.mk ((ngq hg BK232 : gb242 ≠ gb232))
         have n10_ := Aside0.mk ((nlq hg BK233 : gb233 ≠ gb242))
         have n11_ := Aside0.mk ((ngq hg BK233 : gb242 ≠ gb233))
         have n12_ := Aside0.mk ((nlq hg BK234 : gb234 ≠ gb242))
         have n13_ := Aside0.mk ((ngq hg BK234 : gb242 ≠ gb234))
         have n14_ := Aside0.mk ((nlq hg BK235 : gb235 ≠ gb242))
         have n15_ := Aside0.mk ((ngq hg BK235 : gb242 ≠ gb235))
         clear BK232 BK233 BK234 BK235 HB
         have BK232 := n0_
         have BK233 := n1_
         have BK234 := n2_
         have BK235 := n3_
         have HB := n4_
         have BK242 := n5_
         have GW242 := n6_
         have GE242 := n7_
         have NB232_242 := n8_
         have NB242_232 := n9_
         have NB233_242 := n10_
         have NB242_233 := n11_
         have NB234_242 := n12_
         have NB242_234 := n13_
         have NB235_242 := n14_
         have NB242_235 := n15_
         clear n0_ n1_ n2_ n3_ n4_ n5_ n6_ n7_ n8_ n9_ n10_ n11_ n12_ n13_ n14_ n15_ hb hbox hg
         refine hK.out _ _ ⟨(blk_cell BK232.out 0).trans rfl, (blk_cell BK232.out 1).trans rfl, (blk_cell BK234.out 0).trans rfl, (blk_cell BK234.out 1).trans rfl, (blk_cell BK233.out 0).trans rfl, (blk_cell BK233.out 1).trans rfl, (blk_cell BK235.out 0).trans rfl, (blk_cell BK235.out 1).trans rfl⟩ (fun hHeld => ?_)
         clear hK K
         refine norm_ (a' := ?_) ?_ ?_
         rotate_left
         ·
          show Act.put _ (some 14) _ = _
          simp only [Act.put, List.setIfInBounds_toArray, List.set_cons_zero, List.set_cons_succ, i64_w, i32_w]
          rfl
         exact nq_ (hJ3_7_9 (gb242) _ ⟨hHeld, (bkq BK232), (bkq BK233), (bkq BK234), (bkq BK235), (bkq BK242), GW242.out, GE242.out, NB232_242.out, NB242_232.out, NB233_242.out, NB242_233.out, NB234_242.out, NB242_234.out, NB235_242.out, NB242_235.out, (hbq HB)⟩)
      ·
       skip
       rintro ⟨gb241, gb242⟩ w23 ⟨hS_, h0_, h1_, h2_, h3_, h4_, h5_, h6_, h7_, h8_, h9_, h10_, h11_, h12_, h13_, h14_, h15_, h16_, h17_, h18_, h19_, h20_, h21_, h22_, h23_, h24_, h25_, h26_, h27_, h28_⟩
       have n0_ : Aside0 (w23.heap[gb232]? = some (.cells #[.int .u64 a2_0, .int .u64 a2_1] 24 (0, 0))) := ⟨h0_⟩
       have n1_ : Aside0 (w23.heap[gb233]? = some (.cells #[.int .u64 a3_0, .int .u64 a3_1] 24 (0, 0))) := ⟨h1_⟩
       have n2_ : Aside0 (w23.heap[gb234]? = some (.cells #[.int .u64 a4_0, .int .u64 a4_1] 24 (0, 0))) := ⟨h2_⟩
       have n3_ : Aside0 (w23.heap[gb235]? = some (.cells #[.int .u64 a5_0, .int .u64 a5_1] 24 (0, 0))) := ⟨h3_⟩
       have n4_ : Aside0 (w23.heap[gb241]? = some (.cells #[.int .u64 0, .int .u64 0] 24 (0, 0))) := ⟨h4_⟩
       have n5_ : Aside0 (w23.heap[gb242]? = some (.cells #[.int .u64 0, .int .u64 0] 24 (0, 0))) := ⟨h5_⟩
       have n6_ : Aside0 (w.heap.size ≤ gb241) := ⟨h6_⟩
       have n7_ : Aside0 (w.heap.size ≤ gb241) := ⟨h7_⟩
       have n8_ : Aside0 (gb232 ≠ gb241) := ⟨h8_⟩
       have n9_ : Aside0 (gb241 ≠ gb232) := ⟨h9_⟩
       have n10_ : Aside0 (gb233 ≠ gb241) := ⟨h10_⟩
       have n11_ : Aside0 (gb241 ≠ gb233) := ⟨h11_⟩
       have n12_ : Aside0 (gb234 ≠ gb241) := ⟨h12_⟩
       have n13_ : Aside0 (gb241 ≠ gb234) := ⟨h13_⟩
       have n14_ : Aside0 (gb235 ≠ gb241) := ⟨h14_⟩
       have n15_ : Aside0 (gb241 ≠ gb235) := ⟨h15_⟩
       have n16_ : Aside0 (gb242 ≠ gb241) := ⟨h16_⟩
       have n17_ : Aside0 (gb241 ≠ gb242) := ⟨h17_⟩
       have n18_ : Aside0 (w.heap.size ≤ gb242) := ⟨h18_⟩
       have n19_ : Aside0 (w.heap.size ≤ gb242) := ⟨h19_⟩
       have n20_ : Aside0 (gb232 ≠ gb242) := ⟨h20_⟩
       have n21_ : Aside0 (gb242 ≠ gb232) := ⟨h21_⟩
       have n22_ : Aside0 (gb233 ≠ gb242) := ⟨h22_⟩
       have n23_ : Aside0 (gb242 ≠ gb233) := ⟨h23_⟩
       have n24_ : Aside0 (gb234 ≠ gb242) := ⟨h24_⟩
       have n25_ : Aside0 (gb242 ≠ gb234) := ⟨h25_⟩
       have n26_ : Aside0 (gb235 ≠ gb242) := ⟨h26_⟩
       have n27_ : Aside0 (gb242 ≠ gb235) := ⟨h27_⟩
       have n28_ : Aside0 (Below w.heap.size w w23) := ⟨h28_⟩
       clear BK232 BK233 BK234 BK235 HB h0_ h1_ h2_ h3_ h4_ h5_ h6_ h7_ h8_ h9_ h10_ h11_ h12_ h13_ h14_ h15_ h16_ h17_ h18_ h19_ h20_ h21_ h22_ h23_ h24_ h25_ h26_ h27_ h28_
       have BK232 := n0_
       have BK233 := n1_
       have BK234 := n2_
       have BK235 := n3_
       have BK241 := n4_
       have BK242 := n5_
       have GW241 := n6_
       have GE241 := n7_
       have NB232_241 := n8_
       have NB241_232 := n9_
       have NB233_241 := n10_
       have NB241_233 := n11_
       have NB234_241 := n12_
       have NB241_234 := n13_
       have NB235_241 := n14_
       have NB241_235 := n15_
       have NB242_241 := n16_
       have NB241_242 := n17_
       have GW242 := n18_
       have GE242 := n19_
       have NB232_242 := n20_
       have NB242_232 := n21_
       have NB233_242 := n22_
       have NB242_233 := n23_
       have NB234_242 := n24_
       have NB242_234 := n25_
       have NB235_242 := n26_
       have NB242_235 := n27_
       have HB := n28_
       clear n0_ n1_ n2_ n3_ n4_ n5_ n6_ n7_ n8_ n9_ n10_ n11_ n12_ n13_ n14_ n15_ n16_ n17_ n18_ n19_ n20_ n21_ n22_ n23_ n24_ n25_ n26_ n27_ n28_
       have hHeld : w23.cell? ⟨gb232, 0, none⟩ = some (.int .u64 a2_0) ∧ w23.cell? ⟨gb232, 1, none⟩ = some (.int .u64 a2_1) ∧ w23.cell? ⟨gb234, 0, none⟩ = some (.int .u64 a4_0) ∧ w23.cell? ⟨gb234, 1, none⟩ = some (.int .u64 a4_1) ∧ w23.cell? ⟨gb233, 0, none⟩ = some (.int .u64 a3_0) ∧ w23.cell? ⟨gb233, 1, none⟩ = some (.int .u64 a3_1) ∧ w23.cell? ⟨gb235, 0, none⟩ = some (.int .u64 a5_0) ∧ w23.cell? ⟨gb235, 1, none⟩ = some (.int .u64 a5_1) := hS_
       refine norm_ (a' := ?_) ?_ ?_
       rotate_left
       ·
        simp only [putAll, Act.put, List.setIfInBounds_toArray, List.set_cons_zero, List.set_cons_succ]
        rfl
       refine one_ (i := 7) (N := some 26) backreachlaw11_SpanGrows.M34 rfl rfl (one_of HT_.out (by kernel_rfl)) (by decide) (fun K hK => ?_)
       refine goes_ Try.func15 (by kernel_rfl) rfl #[.int .i64 a1, .agg #[.int .u64 a3_0, .int .u64 a3_1], .agg #[.int .u64 a5_0, .int .u64 a5_1]] (by rfl) rfl rfl (by (try simp only [List.map_toArray, List.map_cons, List.map_nil]); first | done | rfl | (simp only [List.length_drop, List.length_take]; rfl)) ?_
       with_reducible refine (span_Join.calls a1 a3_0 a3_1 a5_0 a5_1 t239 t240 _ A10.out).mono ?_
       rintro e w24 ⟨rfl, hb⟩
       refine ⟨_, rfl, ?_⟩
       have n0_ := Aside0.mk (bbq BK232 hb)
       have n1_ := Aside0.mk (bbq BK233 hb)
       have n2_ := Aside0.mk (bbq BK234 hb)
       have n3_ := Aside0.mk (bbq BK235 hb)
       have n4_ := Aside0.mk (bbq BK241 hb)
       have n5_ := Aside0.mk (bbq BK242 hb)
       have n6_ := Aside0.mk (below_step (hbq HB) hb)
       clear BK232 BK233 BK234 BK235 BK241 BK242 HB
       have BK232 := n0_
       have BK233 := n1_
       have BK234 := n2_
       have BK235 := n3_
       have BK241 := n4_
       have BK242 := n5_
       have HB := n6_
       clear n0_ n1_ n2_ n3_ n4_ n5_ n6_
       (try clear hb)
       (try clear hb2)
       (try clear hk)
       (try clear hi)
       refine hK.out _ _ ⟨(blk_cell BK232.out 0).trans rfl, (blk_cell BK232.out 1).trans rfl, (blk_cell BK234.out 0).trans rfl, (blk_cell BK234.out 1).trans rfl, (blk_cell BK233.out 0).trans rfl, (blk_cell BK233.out 1).trans rfl, (blk_cell BK235.out 0).trans rfl, (blk_cell BK235.out 1).trans rfl⟩ (fun hHeld => ?_)
       clear hK K
       refine norm_ (a' := ?_) ?_ ?_
       rotate_left
       ·
        show Act.put _ (some 26) _ = _
        simp only [Act.put, List.setIfInBounds_toArray, List.set_cons_zero, List.set_cons_succ, i64_w, i32_w]
        rfl
       exact nq_ (hJ3_7_8_9 (gb241, gb242) _ ⟨hHeld, (bkq BK232), (bkq BK233), (bkq BK234), (bkq BK235), (bkq BK241), (bkq BK242), GW241.out, GE241.out, NB232_241.out, NB241_232.out, NB233_241.out, NB241_233.out, NB234_241.out, NB241_234.out, NB235_241.out, NB241_235.out, NB242_241.out, NB241_242.out, GW242.out, GE242.out, NB232_242.out, NB242_232.out, NB233_242.out, NB242_233.out, NB234_242.out, NB242_234.out, NB235_242.out, NB242_235.out, (hbq HB)⟩)
     ·
      skip
      rintro gb242 w23 ⟨hS_, h0_, h1_, h2_, h3_, h4_, h5_, h6_, h7_, h8_, h9_, h10_, h11_, h12_, h13_, h14_, h15_⟩
      have n0_ : Aside0 (w23.heap[gb232]? = some (.cells #[.int .u64 a2_0, .int .u64 a2_1] 24 (0, 0))) := ⟨h0_⟩
      have n1_ : Aside0 (w23.heap[gb233]? = some (.cells #[.int .u64 a3_0, .int .u64 a3_1] 24 (0, 0))) := ⟨h1_⟩
      have n2_ : Aside0 (w23.heap[gb234]? = some (.cells #[.int .u64 a4_0, .int .u64 a4_1] 24 (0, 0))) := ⟨h2_⟩
      have n3_ : Aside0 (w23.heap[gb235]? = some (.cells #[.int .u64 a5_0, .int .u64 a5_1] 24 (0, 0))) := ⟨h3_⟩
      have n4_ : Aside0 (w23.heap[gb242]? = some (.cells #[.int .u64 0, .int .u64 0] 24 (0, 0))) := ⟨h4_⟩
      have n5_ : Aside0 (w.heap.size ≤ gb242) := ⟨h5_⟩
      have n6_ : Aside0 (w.heap.size ≤ gb242) := ⟨h6_⟩
      have n7_ : Aside0 (gb232 ≠ gb242) := ⟨h7_⟩
      have n8_ : Aside0 (gb242 ≠ gb232) := ⟨h8_⟩
      have n9_ : Aside0 (gb233 ≠ gb242) := ⟨h9_⟩
      have n10_ : Aside0 (gb242 ≠ gb233) := ⟨h10_⟩
      have n11_ : Aside0 (gb234 ≠ gb242) := ⟨h11_⟩
      have n12_ : Aside0 (gb242 ≠ gb234) := ⟨h12_⟩
      have n13_ : Aside0 (gb235 ≠ gb242) := ⟨h13_⟩
      have n14_ : Aside0 (gb242 ≠ gb235) := ⟨h14_⟩
      have n15_ : Aside0 (Below w.heap.size w w23) := ⟨h15_⟩
      clear BK232 BK233 BK234 BK235 HB h0_ h1_ h2_ h3_ h4_ h5_ h6_ h7_ h8_ h9_ h10_ h11_ h12_ h13_ h14_ h15_
      have BK232 := n0_
      have BK233 := n1_
      have BK234 := n2_
      have BK235 := n3_
      have BK242 := n4_
      have GW242 := n5_
      have GE242 := n6_
      have NB232_242 := n7_
      have NB242_232 := n8_
      have NB233_242 := n9_
      have NB242_233 := n10_
      have NB234_242 := n11_
      have NB242_234 := n12_
      have NB235_242 := n13_
      have NB242_235 := n14_
      have HB := n15_
      clear n0_ n1_ n2_ n3_ n4_ n5_ n6_ n7_ n8_ n9_ n10_ n11_ n12_ n13_ n14_ n15_
      have hHeld : w23.cell? ⟨gb232, 0, none⟩ = some (.int .u64 a2_0) ∧ w23.cell? ⟨gb232, 1, none⟩ = some (.int .u64 a2_1) ∧ w23.cell? ⟨gb234, 0, none⟩ = some (.int .u64 a4_0) ∧ w23.cell? ⟨gb234, 1, none⟩ = some (.int .u64 a4_1) ∧ w23.cell? ⟨gb233, 0, none⟩ = some (.int .u64 a3_0) ∧ w23.cell? ⟨gb233, 1, none⟩ = some (.int .u64 a3_1) ∧ w23.cell? ⟨gb235, 0, none⟩ = some (.int .u64 a5_0) ∧ w23.cell? ⟨gb235, 1, none⟩ = some (.int .u64 a5_1) := hS_
      refine norm_ (a' := ?_) ?_ ?_
      rotate_left
      ·
       simp only [putAll, Act.put, List.setIfInBounds_toArray, List.set_cons_zero, List.set_cons_succ]
       rfl
      refine one_ (i := 8) (N := some 13) backreachlaw11_SpanGrows.M34 rfl rfl (one_of HT_.out (by kernel_rfl)) (by decide) (fun K hK => ?_)
      refine box_step ?hg (N := 13) ?hd (cs := #[.int .u64 0, .int .u64 0]) (t := 24) ?hr ?_; (case hd => rfl); (case hg => rfl); (case hr => first | (go_simp; done) | (go_simp; rfl))
      intro gb241 hg w24 hbox hb
      have n0_ := Aside0.mk (bbq BK232 hb)
      have n1_ := Aside0.mk (bbq BK233 hb)
      have n2_ := Aside0.mk (bbq BK234 hb)
      have n3_ := Aside0.mk (bbq BK235 hb)
      have n4_ := Aside0.mk (bbq BK242 hb)
      have n5_ := Aside0.mk (below_step (hbq HB) hb)
      have n6_ := Aside0.mk (hbox)
      have n7_ := Aside0.mk ((bsq hg HB : w.heap.size ≤ gb241))
      have n8_ := Aside0.mk ((bsq hg HB : w.heap.size ≤ gb241))
      have n9_ := Aside0.mk ((nlq hg BK232 : gb232 ≠ gb241))
      have n10_ := Aside0.mk ((ngq hg BK232 : gb241 ≠ gb232))
      have n11_ := Aside0.mk ((nlq hg BK233 : gb233 ≠ gb241))
      have n12_ := Aside0.mk ((ngq hg BK233 : gb241 ≠ gb233))
      have n13_ := Aside0.mk ((nlq hg BK234 : gb234 ≠ gb241))
      have n14_ := Aside0.mk ((ngq hg BK234 : gb241 ≠ gb234))
      have n15_ := Aside0.mk ((nlq hg BK235 : gb235 ≠ gb241))
      have n16_ := Aside0.mk ((ngq hg BK235 : gb241 ≠ gb235))
      have n17_ := Aside0.mk ((nlq hg BK242 : gb242 ≠ gb241))
      have n18_ := Aside0.mk ((ngq hg BK242 : gb241 ≠ gb242))
      clear BK232 BK233 BK234 BK235 BK242 HB
      have BK232 := n0_
      have BK233 := n1_
      have BK234 := n2_
      have BK235 := n3_
      have BK242 := n4_
      have HB := n5_
      have BK241 := n6_
      have GW241 := n7_
      have GE241 := n8_
      have NB232_241 := n9_
      have NB241_232 := n10_
      have NB233_241 := n11_
      have NB241_233 := n12_
      have NB234_241 := n13_
      have NB241_234 := n14_
      have NB235_241 := n15_
      have NB241_235 := n16_
      have NB242_241 := n17_
      have NB241_242 := n18_
      clear n0_ n1_ n2_ n3_ n4_ n5_ n6_ n7_ n8_ n9_ n10_ n11_ n12_ n13_ n14_ n15_ n16_ n17_ n18_ hb hbox hg
      refine hK.out _ _ ⟨(blk_cell BK232.out 0).trans rfl, (blk_cell BK232.out 1).trans rfl, (blk_cell BK234.out 0).trans rfl, (blk_cell BK234.out 1).trans rfl, (blk_cell BK233.out 0).trans rfl, (blk_cell BK233.out 1).trans rfl, (blk_cell BK235.out 0).trans rfl, (blk_cell BK235.out 1).trans rfl⟩ (fun hHeld => ?_)
      clear hK K
      refine norm_ (a' := ?_) ?_ ?_
      rotate_left
      ·
       show Act.put _ (some 13) _ = _
       simp only [Act.put, List.setIfInBounds_toArray, List.set_cons_zero, List.set_cons_succ, i64_w, i32_w]
       rfl
      exact nq_ (hJ3_7_8_9 (gb241, gb242) _ ⟨hHeld, (bkq BK232), (bkq BK233), (bkq BK234), (bkq BK235), (bkq BK241), (bkq BK242), GW241.out, GE241.out, NB232_241.out, NB241_232.out, NB233_241.out, NB241_233.out, NB234_241.out, NB241_234.out, NB235_241.out, NB241_235.out, NB242_241.out, NB241_242.out, GW242.out, GE242.out, NB232_242.out, NB242_232.out, NB233_242.out, NB242_233.out, NB234_242.out, NB242_234.out, NB235_242.out, NB242_235.out, (hbq HB)⟩)
    ·
     skip
     rintro gb241 w23 ⟨hS_, h0_, h1_, h2_, h3_, h4_, h5_, h6_, h7_, h8_, h9_, h10_, h11_, h12_, h13_, h14_, h15_⟩
     have n0_ : Aside0 (w23.heap[gb232]? = some (.cells #[.int .u64 a2_0, .int .u64 a2_1] 24 (0, 0))) := ⟨h0_⟩
     have n1_ : Aside0 (w23.heap[gb233]? = some (.cells #[.int .u64 a3_0, .int .u64 a3_1] 24 (0, 0))) := ⟨h1_⟩
     have n2_ : Aside0 (w23.heap[gb234]? = some (.cells #[.int .u64 a4_0, .int .u64 a4_1] 24 (0, 0))) := ⟨h2_⟩
     have n3_ : Aside0 (w23.heap[gb235]? = some (.cells #[.int .u64 a5_0, .int .u64 a5_1] 24 (0, 0))) := ⟨h3_⟩
     have n4_ : Aside0 (w23.heap[gb241]? = some (.cells #[.int .u64 0, .int .u64 0] 24 (0, 0))) := ⟨h4_⟩
     have n5_ : Aside0 (w.heap.size ≤ gb241) := ⟨h5_⟩
     have n6_ : Aside0 (w.heap.size ≤ gb241) := ⟨h6_⟩
     have n7_ : Aside0 (gb232 ≠ gb241) := ⟨h7_⟩
     have n8_ : Aside0 (gb241 ≠ gb232) := ⟨h8_⟩
     have n9_ : Aside0 (gb233 ≠ gb241) := ⟨h9_⟩
     have n10_ : Aside0 (gb241 ≠ gb233) := ⟨h10_⟩
     have n11_ : Aside0 (gb234 ≠ gb241) := ⟨h11_⟩
     have n12_ : Aside0 (gb241 ≠ gb234) := ⟨h12_⟩
     have n13_ : Aside0 (gb235 ≠ gb241) := ⟨h13_⟩
     have n14_ : Aside0 (gb241 ≠ gb235) := ⟨h14_⟩
     have n15_ : Aside0 (Below w.heap.size w w23) := ⟨h15_⟩
     clear BK232 BK233 BK234 BK235 HB h0_ h1_ h2_ h3_ h4_ h5_ h6_ h7_ h8_ h9_ h10_ h11_ h12_ h13_ h14_ h15_
     have BK232 := n0_
     have BK233 := n1_
     have BK234 := n2_
     have BK235 := n3_
     have BK241 := n4_
     have GW241 := n5_
     have GE241 := n6_
     have NB232_241 := n7_
     have NB241_232 := n8_
     have NB233_241 := n9_
     have NB241_233 := n10_
     have NB234_241 := n11_
     have NB241_234 := n12_
     have NB235_241 := n13_
     have NB241_235 := n14_
     have HB := n15_
     clear n0_ n1_ n2_ n3_ n4_ n5_ n6_ n7_ n8_ n9_ n10_ n11_ n12_ n13_ n14_ n15_
     have hHeld : w23.cell? ⟨gb232, 0, none⟩ = some (.int .u64 a2_0) ∧ w23.cell? ⟨gb232, 1, none⟩ = some (.int .u64 a2_1) ∧ w23.cell? ⟨gb234, 0, none⟩ = some (.int .u64 a4_0) ∧ w23.cell? ⟨gb234, 1, none⟩ = some (.int .u64 a4_1) ∧ w23.cell? ⟨gb233, 0, none⟩ = some (.int .u64 a3_0) ∧ w23.cell? ⟨gb233, 1, none⟩ = some (.int .u64 a3_1) ∧ w23.cell? ⟨gb235, 0, none⟩ = some (.int .u64 a5_0) ∧ w23.cell? ⟨gb235, 1, none⟩ = some (.int .u64 a5_1) := hS_
     refine norm_ (a' := ?_) ?_ ?_
     rotate_left
     ·
      simp only [putAll, Act.put, List.setIfInBounds_toArray, List.set_cons_zero, List.set_cons_succ]
      rfl
     refine one_ (i := 9) (N := some 14) backreachlaw11_SpanGrows.M34 rfl rfl (one_of HT_.out (by kernel_rfl)) (by decide) (fun K hK => ?_)
     refine box_step ?hg (N := 14) ?hd (cs := #[.int .u64 0, .int .u64 0]) (t := 24) ?hr ?_; (case hd => rfl); (case hg => rfl); (case hr => first | (go_simp; done) | (go_simp; rfl))
     intro gb242 hg w24 hbox hb
     have n0_ := Aside0.mk (bbq BK232 hb)
     have n1_ := Aside0.mk (bbq BK233 hb)
     have n2_ := Aside0.mk (bbq BK234 hb)
     have n3_ := Aside0.mk (bbq BK235 hb)
     have n4_ := Aside0.mk (bbq BK241 hb)
     have n5_ := Aside0.mk (below_step (hbq HB) hb)
     have n6_ := Aside0.mk (hbox)
     have n7_ := Aside0.mk ((bsq hg HB : w.heap.size ≤ gb242))
     have n8_ := Aside0.mk ((bsq hg HB : w.heap.size ≤ gb242))
     have n9_ := Aside0.mk ((nlq hg BK232 : gb232 ≠ gb242))
     have n10_ := Aside0.mk ((ngq hg BK232 : gb242 ≠ gb232))
     have n11_ := Aside0.mk ((nlq hg BK233 : gb233 ≠ gb242))
     have n12_ := Aside0.mk ((ngq hg BK233 : gb242 ≠ gb233))
     have n13_ := Aside0.mk ((nlq hg BK234 : gb234 ≠ gb242))
     have n14_ := Aside0.mk ((ngq hg BK234 : gb242 ≠ gb234))
     have n15_ := Aside0.mk ((nlq hg BK235 : gb235 ≠ gb242))
     have n16_ := Aside0.mk ((ngq hg BK235 : gb242 ≠ gb235))
     have n17_ := Aside0.mk ((nlq hg BK241 : gb241 ≠ gb242))
     have n18_ := Aside0.mk ((ngq hg BK241 : gb242 ≠ gb241))
     clear BK232 BK233 BK234 BK235 BK241 HB
     have BK232 := n0_
     have BK233 := n1_
     have BK234 := n2_
     have BK235 := n3_
     have BK241 := n4_
     have HB := n5_
     have BK242 := n6_
     have GW242 := n7_
     have GE242 := n8_
     have NB232_242 := n9_
     have NB242_232 := n10_
     have NB233_242 := n11_
     have NB242_233 := n12_
     have NB234_242 := n13_
     have NB242_234 := n14_
     have NB235_242 := n15_
     have NB242_235 := n16_
     have NB241_242 := n17_
     have NB242_241 := n18_
     clear n0_ n1_ n2_ n3_ n4_ n5_ n6_ n7_ n8_ n9_ n10_ n11_ n12_ n13_ n14_ n15_ n16_ n17_ n18_ hb hbox hg
     refine hK.out _ _ ⟨(blk_cell BK232.out 0).trans rfl, (blk_cell BK232.out 1).trans rfl, (blk_cell BK234.out 0).trans rfl, (blk_cell BK234.out 1).trans rfl, (blk_cell BK233.out 0).trans rfl, (blk_cell BK233.out 1).trans rfl, (blk_cell BK235.out 0).trans rfl, (blk_cell BK235.out 1).trans rfl⟩ (fun hHeld => ?_)
     clear hK K
     refine norm_ (a' := ?_) ?_ ?_
     rotate_left
     ·
      show Act.put _ (some 14) _ = _
      simp only [Act.put, List.setIfInBounds_toArray, List.set_cons_zero, List.set_cons_succ, i64_w, i32_w]
      rfl
     exact nq_ (hJ3_7_8_9 (gb241, gb242) _ ⟨hHeld, (bkq BK232), (bkq BK233), (bkq BK234), (bkq BK235), (bkq BK241), (bkq BK242), GW241.out, GE241.out, NB232_241.out, NB241_232.out, NB233_241.out, NB241_233.out, NB234_241.out, NB241_234.out, NB235_241.out, NB241_235.out, NB242_241.out, NB241_242.out, GW242.out, GE242.out, NB232_242.out, NB242_232.out, NB233_242.out, NB242_233.out, NB234_242.out, NB242_234.out, NB235_242.out, NB242_235.out, (hbq HB)⟩)
   rintro ⟨gb241, gb242⟩ w24 ⟨hS_, h0_, h1_, h2_, h3_, h4_, h5_, h6_, h7_, h8_, h9_, h10_, h11_, h12_, h13_, h14_, h15_, h16_, h17_, h18_, h19_, h20_, h21_, h22_, h23_, h24_, h25_, h26_, h27_, h28_⟩
   have n0_ : Aside0 (w24.heap[gb232]? = some (.cells #[.int .u64 a2_0, .int .u64 a2_1] 24 (0, 0))) := ⟨h0_⟩
   have n1_ : Aside0 (w24.heap[gb233]? = some (.cells #[.int .u64 a3_0, .int .u64 a3_1] 24 (0, 0))) := ⟨h1_⟩
   have n2_ : Aside0 (w24.heap[gb234]? = some (.cells #[.int .u64 a4_0, .int .u64 a4_1] 24 (0, 0))) := ⟨h2_⟩
   have n3_ : Aside0 (w24.heap[gb235]? = some (.cells #[.int .u64 a5_0, .int .u64 a5_1] 24 (0, 0))) := ⟨h3_⟩
   have n4_ : Aside0 (w24.heap[gb241]? = some (.cells #[.int .u64 0, .int .u64 0] 24 (0, 0))) := ⟨h4_⟩
   have n5_ : Aside0 (w24.heap[gb242]? = some (.cells #[.int .u64 0, .int .u64 0] 24 (0, 0))) := ⟨h5_⟩
   have n6_ : Aside0 (w.heap.size ≤ gb241) := ⟨h6_⟩
   have n7_ : Aside0 (w.heap.size ≤ gb241) := ⟨h7_⟩
   have n8_ : Aside0 (gb232 ≠ gb241) := ⟨h8_⟩
   have n9_ : Aside0 (gb241 ≠ gb232) := ⟨h9_⟩
   have n10_ : Aside0 (gb233 ≠ gb241) := ⟨h10_⟩
   have n11_ : Aside0 (gb241 ≠ gb233) := ⟨h11_⟩
   have n12_ : Aside0 (gb234 ≠ gb241) := ⟨h12_⟩
   have n13_ : Aside0 (gb241 ≠ gb234) := ⟨h13_⟩
   have n14_ : Aside0 (gb235 ≠ gb241) := ⟨h14_⟩
   have n15_ : Aside0 (gb241 ≠ gb235) := ⟨h15_⟩
   have n16_ : Aside0 (gb242 ≠ gb241) := ⟨h16_⟩
   have n17_ : Aside0 (gb241 ≠ gb242) := ⟨h17_⟩
   have n18_ : Aside0 (w.heap.size ≤ gb242) := ⟨h18_⟩
   have n19_ : Aside0 (w.heap.size ≤ gb242) := ⟨h19_⟩
   have n20_ : Aside0 (gb232 ≠ gb242) := ⟨h20_⟩
   have n21_ : Aside0 (gb242 ≠ gb232) := ⟨h21_⟩
   have n22_ : Aside0 (gb233 ≠ gb242) := ⟨h22_⟩
   have n23_ : Aside0 (gb242 ≠ gb233) := ⟨h23_⟩
   have n24_ : Aside0 (gb234 ≠ gb242) := ⟨h24_⟩
   have n25_ : Aside0 (gb242 ≠ gb234) := ⟨h25_⟩
   have n26_ : Aside0 (gb235 ≠ gb242) := ⟨h26_⟩
   have n27_ : Aside0 (gb242 ≠ gb235) := ⟨h27_⟩
   have n28_ : Aside0 (Below w.heap.size w w24) := ⟨h28_⟩
   clear BK232 BK233 BK234 BK235 HB h0_ h1_ h2_ h3_ h4_ h5_ h6_ h7_ h8_ h9_ h10_ h11_ h12_ h13_ h14_ h15_ h16_ h17_ h18_ h19_ h20_ h21_ h22_ h23_ h24_ h25_ h26_ h27_ h28_
   have BK232 := n0_
   have BK233 := n1_
   have BK234 := n2_
   have BK235 := n3_
   have BK241 := n4_
   have BK242 := n5_
   have GW241 := n6_
   have GE241 := n7_
   have NB232_241 := n8_
   have NB241_232 := n9_
   have NB233_241 := n10_
   have NB241_233 := n11_
   have NB234_241 := n12_
   have NB241_234 := n13_
   have NB235_241 := n14_
   have NB241_235 := n15_
   have NB242_241 := n16_
   have NB241_242 := n17_
   have GW242 := n18_
   have GE242 := n19_
   have NB232_242 := n20_
   have NB242_232 := n21_
   have NB233_242 := n22_
   have NB242_233 := n23_
   have NB234_242 := n24_
   have NB242_234 := n25_
   have NB235_242 := n26_
   have NB242_235 := n27_
   have HB := n28_
   clear n0_ n1_ n2_ n3_ n4_ n5_ n6_ n7_ n8_ n9_ n10_ n11_ n12_ n13_ n14_ n15_ n16_ n17_ n18_ n19_ n20_ n21_ n22_ n23_ n24_ n25_ n26_ n27_ n28_
   have hHeld : w24.cell? ⟨gb232, 0, none⟩ = some (.int .u64 a2_0) ∧ w24.cell? ⟨gb232, 1, none⟩ = some (.int .u64 a2_1) ∧ w24.cell? ⟨gb234, 0, none⟩ = some (.int .u64 a4_0) ∧ w24.cell? ⟨gb234, 1, none⟩ = some (.int .u64 a4_1) ∧ w24.cell? ⟨gb233, 0, none⟩ = some (.int .u64 a3_0) ∧ w24.cell? ⟨gb233, 1, none⟩ = some (.int .u64 a3_1) ∧ w24.cell? ⟨gb235, 0, none⟩ = some (.int .u64 a5_0) ∧ w24.cell? ⟨gb235, 1, none⟩ = some (.int .u64 a5_1) := hS_
   refine norm_ (a' := ?_) ?_ ?_
   rotate_left
   ·
    simp only [putAll, Act.put, List.setIfInBounds_toArray, List.set_cons_zero, List.set_cons_succ]
    rfl
   refine one_ (i := 10) (N := none) backreachlaw11_SpanGrows.M37 rfl rfl (one_of HT_.out (by kernel_rfl)) (by decide) (fun K hK => ?_)
   have hs25 : w24.cell? ⟨gb241, 0, none⟩ = some (.int .u64 0) := (blk_cell BK241.out 0).trans rfl
   have hfs25 := blk_frozen BK241.out 0
   have hns25_0 := NB232_241.out
   have hns25_1 := NB233_241.out
   have hns25_2 := NB234_241.out
   have hns25_3 := NB235_241.out
   have hns25_5 := NB242_241.out
   have hms25_0 := NB241_232.out
   have hms25_1 := NB241_233.out
   have hms25_2 := NB241_234.out
   have hms25_3 := NB241_235.out
   have hms25_5 := NB241_242.out
   have hs26 : w24.cell? ⟨gb241, 1, none⟩ = some (.int .u64 0) := (blk_cell BK241.out 1).trans rfl
   have hfs26 := blk_frozen BK241.out 1
   have hns26_0 := NB232_241.out
   have hns26_1 := NB233_241.out
   have hns26_2 := NB234_241.out
   have hns26_3 := NB235_241.out
   have hns26_5 := NB242_241.out
   have hms26_0 := NB241_232.out
   have hms26_1 := NB241_233.out
   have hms26_2 := NB241_234.out
   have hms26_3 := NB241_235.out
   have hms26_5 := NB241_242.out
   refine skip_ (w1 := ?_) (by rfl) rfl ?_ ?_
   rotate_left
   ·
    go_simp
    rfl
   refine hK.out _ _ ⟨((cell_far (p := ⟨gb241, _, none⟩) NB232_241.out _).trans (((cell_far (p := ⟨gb241, _, none⟩) NB232_241.out _).trans (hHeld.1)))), ((cell_far (p := ⟨gb241, _, none⟩) NB232_241.out _).trans (((cell_far (p := ⟨gb241, _, none⟩) NB232_241.out _).trans (hHeld.2.1)))), ((cell_far (p := ⟨gb241, _, none⟩) NB234_241.out _).trans (((cell_far (p := ⟨gb241, _, none⟩) NB234_241.out _).trans (hHeld.2.2.1)))), ((cell_far (p := ⟨gb241, _, none⟩) NB234_241.out _).trans (((cell_far (p := ⟨gb241, _, none⟩) NB234_241.out _).trans (hHeld.2.2.2.1)))), ((cell_far (p := ⟨gb241, _, none⟩) NB233_241.out _).trans (((cell_far (p := ⟨gb241, _, none⟩) NB233_241.out _).trans (hHeld.2.2.2.2.1)))), ((cell_far (p := ⟨gb241, _, none⟩) NB233_241.out _).trans (((cell_far (p := ⟨gb241, _, none⟩) NB233_241.out _).trans (hHeld.2.2.2.2.2.1)))), ((cell_far (p := ⟨gb241, _, none⟩) NB235_241.out _).trans (((cell_far (p := ⟨gb241, _, none⟩) NB235_241.out _).trans (hHeld.2.2.2.2.2.2.1)))), ((cell_far (p := ⟨gb241, _, none⟩) NB235_241.out _).trans (((cell_far (p := ⟨gb241, _, none⟩) NB235_241.out _).trans (hHeld.2.2.2.2.2.2.2))))⟩ (fun hHeld => ?_)
   clear hK K
   refine one_ (i := 11) (N := none) backreachlaw11_SpanGrows.M41 rfl rfl (one_of HT_.out (by kernel_rfl)) (by decide) (fun K hK => ?_)
   have hs27 : w24.cell? ⟨gb242, 0, none⟩ = some (.int .u64 0) := (blk_cell BK242.out 0).trans rfl
   have hfs27 := blk_frozen BK242.out 0
   have hns27_0 := NB232_242.out
   have hns27_1 := NB233_242.out
   have hns27_2 := NB234_242.out
   have hns27_3 := NB235_242.out
   have hns27_4 := NB241_242.out
   have hms27_0 := NB242_232.out
   have hms27_1 := NB242_233.out
   have hms27_2 := NB242_234.out
   have hms27_3 := NB242_235.out
   have hms27_4 := NB242_241.out
   have hs28 : w24.cell? ⟨gb242, 1, none⟩ = some (.int .u64 0) := (blk_cell BK242.out 1).trans rfl
   have hfs28 := blk_frozen BK242.out 1
   have hns28_0 := NB232_242.out
   have hns28_1 := NB233_242.out
   have hns28_2 := NB234_242.out
   have hns28_3 := NB235_242.out
   have hns28_4 := NB241_242.out
   have hms28_0 := NB242_232.out
   have hms28_1 := NB242_233.out
   have hms28_2 := NB242_234.out
   have hms28_3 := NB242_235.out
   have hms28_4 := NB242_241.out
   refine skip_ (w1 := ?_) (by rfl) rfl ?_ ?_
   rotate_left
   ·
    go_simp
    rfl
   refine hK.out _ _ ⟨((cell_far (p := ⟨gb242, _, none⟩) NB232_242.out _).trans (((cell_far (p := ⟨gb242, _, none⟩) NB232_242.out _).trans (hHeld.1)))), ((cell_far (p := ⟨gb242, _, none⟩) NB232_242.out _).trans (((cell_far (p := ⟨gb242, _, none⟩) NB232_242.out _).trans (hHeld.2.1)))), ((cell_far (p := ⟨gb242, _, none⟩) NB234_242.out _).trans (((cell_far (p := ⟨gb242, _, none⟩) NB234_242.out _).trans (hHeld.2.2.1)))), ((cell_far (p := ⟨gb242, _, none⟩) NB234_242.out _).trans (((cell_far (p := ⟨gb242, _, none⟩) NB234_242.out _).trans (hHeld.2.2.2.1)))), ((cell_far (p := ⟨gb242, _, none⟩) NB233_242.out _).trans (((cell_far (p := ⟨gb242, _, none⟩) NB233_242.out _).trans (hHeld.2.2.2.2.1)))), ((cell_far (p := ⟨gb242, _, none⟩) NB233_242.out _).trans (((cell_far (p := ⟨gb242, _, none⟩) NB233_242.out _).trans (hHeld.2.2.2.2.2.1)))), ((cell_far (p := ⟨gb242, _, none⟩) NB235_242.out _).trans (((cell_far (p := ⟨gb242, _, none⟩) NB235_242.out _).trans (hHeld.2.2.2.2.2.2.1)))), ((cell_far (p := ⟨gb242, _, none⟩) NB235_242.out _).trans (((cell_far (p := ⟨gb242, _, none⟩) NB235_242.out _).trans (hHeld.2.2.2.2.2.2.2))))⟩ (fun hHeld => ?_)
   clear hK K
   refine done_ (done_of HT_.out (by kernel_rfl)) ?_
   try go_wp2
   have n0_ : Aside0 (((((w24.setCell ⟨gb241, 0, none⟩ (.int .u64 t237)).setCell ⟨gb241, 1, none⟩ (.int .u64 t238)).setCell ⟨gb242, 0, none⟩ (.int .u64 t239)).setCell ⟨gb242, 1, none⟩ (.int .u64 t240)).heap[gb232]? = some (.cells #[.int .u64 a2_0, .int .u64 a2_1] 24 (0, 0))) := ⟨by (with_reducible repeat (first | refine blk_drewN ?_ _ | refine blk_drew ?_ | refine blk_alloc ?_ _)); refine blk_far ?_ NB232_242.out _; (with_reducible repeat (first | refine blk_drewN ?_ _ | refine blk_drew ?_ | refine blk_alloc ?_ _)); refine blk_far ?_ NB232_242.out _; (with_reducible repeat (first | refine blk_drewN ?_ _ | refine blk_drew ?_ | refine blk_alloc ?_ _)); refine blk_far ?_ NB232_241.out _; (with_reducible repeat (first | refine blk_drewN ?_ _ | refine blk_drew ?_ | refine blk_alloc ?_ _)); refine blk_far ?_ NB232_241.out _; (with_reducible repeat (first | refine blk_drewN ?_ _ | refine blk_drew ?_ | refine blk_alloc ?_ _)); exact BK232.out⟩
   have n1_ : Aside0 (((((w24.setCell ⟨gb241, 0, none⟩ (.int .u64 t237)).setCell ⟨gb241, 1, none⟩ (.int .u64 t238)).setCell ⟨gb242, 0, none⟩ (.int .u64 t239)).setCell ⟨gb242, 1, none⟩ (.int .u64 t240)).heap[gb233]? = some (.cells #[.int .u64 a3_0, .int .u64 a3_1] 24 (0, 0))) := ⟨by (with_reducible repeat (first | refine blk_drewN ?_ _ | refine blk_drew ?_ | refine blk_alloc ?_ _)); refine blk_far ?_ NB233_242.out _; (with_reducible repeat (first | refine blk_drewN ?_ _ | refine blk_drew ?_ | refine blk_alloc ?_ _)); refine blk_far ?_ NB233_242.out _; (with_reducible repeat (first | refine blk_drewN ?_ _ | refine blk_drew ?_ | refine blk_alloc ?_ _)); refine blk_far ?_ NB233_241.out _; (with_reducible repeat (first | refine blk_drewN ?_ _ | refine blk_drew ?_ | refine blk_alloc ?_ _)); refine blk_far ?_ NB233_241.out _; (with_reducible repeat (first | refine blk_drewN ?_ _ | refine blk_drew ?_ | refine blk_alloc ?_ _)); exact BK233.out⟩
   have n2_ : Aside0 (((((w24.setCell ⟨gb241, 0, none⟩ (.int .u64 t237)).setCell ⟨gb241, 1, none⟩ (.int .u64 t238)).setCell ⟨gb242, 0, none⟩ (.int .u64 t239)).setCell ⟨gb242, 1, none⟩ (.int .u64 t240)).heap[gb234]? = some (.cells #[.int .u64 a4_0, .int .u64 a4_1] 24 (0, 0))) := ⟨by (with_reducible repeat (first | refine blk_drewN ?_ _ | refine blk_drew ?_ | refine blk_alloc ?_ _)); refine blk_far ?_ NB234_242.out _; (with_reducible repeat (first | refine blk_drewN ?_ _ | refine blk_drew ?_ | refine blk_alloc ?_ _)); refine blk_far ?_ NB234_242.out _; (with_reducible repeat (first | refine blk_drewN ?_ _ | refine blk_drew ?_ | refine blk_alloc ?_ _)); refine blk_far ?_ NB234_241.out _; (with_reducible repeat (first | refine blk_drewN ?_ _ | refine blk_drew ?_ | refine blk_alloc ?_ _)); refine blk_far ?_ NB234_241.out _; (with_reducible repeat (first | refine blk_drewN ?_ _ | refine blk_drew ?_ | refine blk_alloc ?_ _)); exact BK234.out⟩
   have n3_ : Aside0 (((((w24.setCell ⟨gb241, 0, none⟩ (.int .u64 t237)).setCell ⟨gb241, 1, none⟩ (.int .u64 t238)).setCell ⟨gb242, 0, none⟩ (.int .u64 t239)).setCell ⟨gb242, 1, none⟩ (.int .u64 t240)).heap[gb235]? = some (.cells #[.int .u64 a5_0, .int .u64 a5_1] 24 (0, 0))) := ⟨by (with_reducible repeat (first | refine blk_drewN ?_ _ | refine blk_drew ?_ | refine blk_alloc ?_ _)); refine blk_far ?_ NB235_242.out _; (with_reducible repeat (first | refine blk_drewN ?_ _ | refine blk_drew ?_ | refine blk_alloc ?_ _)); refine blk_far ?_ NB235_242.out _; (with_reducible repeat (first | refine blk_drewN ?_ _ | refine blk_drew ?_ | refine blk_alloc ?_ _)); refine blk_far ?_ NB235_241.out _; (with_reducible repeat (first | refine blk_drewN ?_ _ | refine blk_drew ?_ | refine blk_alloc ?_ _)); refine blk_far ?_ NB235_241.out _; (with_reducible repeat (first | refine blk_drewN ?_ _ | refine blk_drew ?_ | refine blk_alloc ?_ _)); exact BK235.out⟩
   have n4_ : Aside0 (((((w24.setCell ⟨gb241, 0, none⟩ (.int .u64 t237)).setCell ⟨gb241, 1, none⟩ (.int .u64 t238)).setCell ⟨gb242, 0, none⟩ (.int .u64 t239)).setCell ⟨gb242, 1, none⟩ (.int .u64 t240)).heap[gb241]? = some (.cells #[.int .u64 t237, .int .u64 t238] 24 (0, 0))) := ⟨by (with_reducible repeat (first | refine blk_drewN ?_ _ | refine blk_drew ?_ | refine blk_alloc ?_ _)); refine blk_far ?_ NB241_242.out _; (with_reducible repeat (first | refine blk_drewN ?_ _ | refine blk_drew ?_ | refine blk_alloc ?_ _)); refine blk_far ?_ NB241_242.out _; (with_reducible repeat (first | refine blk_drewN ?_ _ | refine blk_drew ?_ | refine blk_alloc ?_ _)); refine blk_put (cs := #[.int .u64 t237, .int .u64 0]) ?_ 1 _ rfl; (with_reducible repeat (first | refine blk_drewN ?_ _ | refine blk_drew ?_ | refine blk_alloc ?_ _)); refine blk_put (cs := #[.int .u64 0, .int .u64 0]) ?_ 0 _ rfl; (with_reducible repeat (first | refine blk_drewN ?_ _ | refine blk_drew ?_ | refine blk_alloc ?_ _)); exact BK241.out⟩
   have n5_ : Aside0 (((((w24.setCell ⟨gb241, 0, none⟩ (.int .u64 t237)).setCell ⟨gb241, 1, none⟩ (.int .u64 t238)).setCell ⟨gb242, 0, none⟩ (.int .u64 t239)).setCell ⟨gb242, 1, none⟩ (.int .u64 t240)).heap[gb242]? = some (.cells #[.int .u64 t239, .int .u64 t240] 24 (0, 0))) := ⟨by (with_reducible repeat (first | refine blk_drewN ?_ _ | refine blk_drew ?_ | refine blk_alloc ?_ _)); refine blk_put (cs := #[.int .u64 t239, .int .u64 0]) ?_ 1 _ rfl; (with_reducible repeat (first | refine blk_drewN ?_ _ | refine blk_drew ?_ | refine blk_alloc ?_ _)); refine blk_put (cs := #[.int .u64 0, .int .u64 0]) ?_ 0 _ rfl; (with_reducible repeat (first | refine blk_drewN ?_ _ | refine blk_drew ?_ | refine blk_alloc ?_ _)); refine blk_far ?_ NB242_241.out _; (with_reducible repeat (first | refine blk_drewN ?_ _ | refine blk_drew ?_ | refine blk_alloc ?_ _)); refine blk_far ?_ NB242_241.out _; (with_reducible repeat (first | refine blk_drewN ?_ _ | refine blk_drew ?_ | refine blk_alloc ?_ _)); exact BK242.out⟩
   have n6_ : Aside0 (Below w.heap.size w ((((w24.setCell ⟨gb241, 0, none⟩ (.int .u64 t237)).setCell ⟨gb241, 1, none⟩ (.int .u64 t238)).setCell ⟨gb242, 0, none⟩ (.int .u64 t239)).setCell ⟨gb242, 1, none⟩ (.int .u64 t240))) := ⟨by repeat (first | (with_reducible first | exact HB.out | apply below_alloc | apply pw_below_drewN | apply below_drew1 | refine below_set ?_ GE232.out | refine below_set ?_ GE233.out | refine below_set ?_ GE234.out | refine below_set ?_ GE235.out | refine below_set ?_ GE241.out | refine below_set ?_ GE242.out) | exact HB.out)⟩
   (try clear BK232)
   (try clear BK233)
   (try clear BK234)
   (try clear BK235)
   (try clear BK241)
   (try clear BK242)
   (try clear HB)
   generalize ((((w24.setCell ⟨gb241, 0, none⟩ (.int .u64 t237)).setCell ⟨gb241, 1, none⟩ (.int .u64 t238)).setCell ⟨gb242, 0, none⟩ (.int .u64 t239)).setCell ⟨gb242, 1, none⟩ (.int .u64 t240)) = w29 at n0_ n1_ n2_ n3_ n4_ n5_ n6_ ⊢
   have BK232 := n0_
   have BK233 := n1_
   have BK234 := n2_
   have BK235 := n3_
   have BK241 := n4_
   have BK242 := n5_
   have HB := n6_
   clear n0_ n1_ n2_ n3_ n4_ n5_ n6_
   have n0_ := Aside0.mk (blk_drew BK232.out)
   have n1_ := Aside0.mk (blk_drew BK233.out)
   have n2_ := Aside0.mk (blk_drew BK234.out)
   have n3_ := Aside0.mk (blk_drew BK235.out)
   have n4_ := Aside0.mk (blk_drew BK241.out)
   have n5_ := Aside0.mk (blk_drew BK242.out)
   have n6_ := Aside0.mk (below_drew1 HB.out)
   clear BK232 BK233 BK234 BK235 BK241 BK242 HB
   have BK232 := n0_
   have BK233 := n1_
   have BK234 := n2_
   have BK235 := n3_
   have BK241 := n4_
   have BK242 := n5_
   have HB := n6_
   clear n0_ n1_ n2_ n3_ n4_ n5_ n6_
   refine start_ (n := 14) (S := fun w' => w'.cell? ⟨gb232, 0, none⟩ = some (.int .u64 a2_0) ∧ w'.cell? ⟨gb232, 1, none⟩ = some (.int .u64 a2_1) ∧ w'.cell? ⟨gb233, 0, none⟩ = some (.int .u64 a3_0) ∧ w'.cell? ⟨gb233, 1, none⟩ = some (.int .u64 a3_1) ∧ w'.cell? ⟨gb241, 0, none⟩ = some (.int .u64 t237) ∧ w'.cell? ⟨gb241, 1, none⟩ = some (.int .u64 t238) ∧ w'.cell? ⟨gb242, 0, none⟩ = some (.int .u64 t239) ∧ w'.cell? ⟨gb242, 1, none⟩ = some (.int .u64 t240)) (ds := []) backreachlaw11_SpanGrows.M0 (by kernel_rfl) rfl rfl ⟨(blk_cell BK232.out 0).trans rfl, (blk_cell BK232.out 1).trans rfl, (blk_cell BK233.out 0).trans rfl, (blk_cell BK233.out 1).trans rfl, (blk_cell BK241.out 0).trans rfl, (blk_cell BK241.out 1).trans rfl, (blk_cell BK242.out 0).trans rfl, (blk_cell BK242.out 1).trans rfl⟩ (fun hHeld => ?_); refine with_tabW backreachlaw11_SpanGrows.tab4 backreachlaw11_SpanGrows.bits4 (fun HT_ HW_ => ?_)
   generalize w29.drew = w30 at BK232 BK233 BK234 BK235 BK241 BK242 HB hHeld ⊢
   refine pq_ 0 27 ?_ backreachlaw11_SpanGrows.M2 HT_.out ?_ ?_ ?_ ?_
   rotate_left; focus (intro w'; go_simp; with_reducible rfl)
   rotate_left; focus (simp only [Act.put, List.setIfInBounds_toArray, List.set_cons_zero, List.set_cons_succ, i64_w, i32_w]; rfl)
   refine pq_ 1 28 ?_ backreachlaw11_SpanGrows.M5 HT_.out ?_ ?_ ?_ ?_
   rotate_left; focus (intro w'; go_simp; with_reducible rfl)
   rotate_left; focus (simp only [Act.put, List.setIfInBounds_toArray, List.set_cons_zero, List.set_cons_succ, i64_w, i32_w]; rfl)
   refine pq_ 5 32 ?_ backreachlaw11_SpanGrows.M6 HT_.out ?_ ?_ ?_ ?_
   rotate_left; focus (intro w'; go_simp; with_reducible rfl)
   rotate_left; focus (simp only [Act.put, List.setIfInBounds_toArray, List.set_cons_zero, List.set_cons_succ, i64_w, i32_w]; rfl)
   refine pq_ 6 33 ?_ backreachlaw11_SpanGrows.M7 HT_.out ?_ ?_ ?_ ?_
   rotate_left; focus (intro w'; go_simp; with_reducible rfl)
   rotate_left; focus (simp only [Act.put, List.setIfInBounds_toArray, List.set_cons_zero, List.set_cons_succ, i64_w, i32_w]; rfl)
   refine take_ (i := 2) (N := some 29) (v := ?_) (a' := ?_) backreachlaw11_SpanGrows.M9 rfl rfl (take_ofW HT_.out HW_.out (by kernel_rfl)) (fun _ _ _ h => h) (Or.inl ⟨by rfl, ?_⟩) hHeld ?_ ?_
   rotate_left; focus (rintro w' ⟨s0, s1, s2, s3, s4, s5, s6, s7⟩; go_simp; with_reducible rfl)
   rotate_left; focus (simp only [Act.put, List.setIfInBounds_toArray, List.set_cons_zero, List.set_cons_succ, i64_w, i32_w]; rfl)
   refine take_ (i := 3) (N := some 30) (v := ?_) (a' := ?_) backreachlaw11_SpanGrows.M16 rfl rfl (take_ofW HT_.out HW_.out (by kernel_rfl)) (fun _ _ _ h => h) (Or.inl ⟨by rfl, ?_⟩) hHeld ?_ ?_
   rotate_left; focus (rintro w' ⟨s0, s1, s2, s3, s4, s5, s6, s7⟩; go_simp; with_reducible rfl)
   rotate_left; focus (simp only [Act.put, List.setIfInBounds_toArray, List.set_cons_zero, List.set_cons_succ, i64_w, i32_w]; rfl)
   refine take_ (i := 7) (N := some 34) (v := ?_) (a' := ?_) backreachlaw11_SpanGrows.M17 rfl rfl (take_ofW HT_.out HW_.out (by kernel_rfl)) (fun _ _ _ h => h) (Or.inl ⟨by rfl, ?_⟩) hHeld ?_ ?_
   rotate_left; focus (rintro w' ⟨s0, s1, s2, s3, s4, s5, s6, s7⟩; go_simp; with_reducible rfl)
   rotate_left; focus (simp only [Act.put, List.setIfInBounds_toArray, List.set_cons_zero, List.set_cons_succ, i64_w, i32_w]; rfl)
   refine take_ (i := 8) (N := some 35) (v := ?_) (a' := ?_) backreachlaw11_SpanGrows.M18 rfl rfl (take_ofW HT_.out HW_.out (by kernel_rfl)) (fun _ _ _ h => h) (Or.inl ⟨by rfl, ?_⟩) hHeld ?_ ?_
   rotate_left; focus (rintro w' ⟨s0, s1, s2, s3, s4, s5, s6, s7⟩; go_simp; with_reducible rfl)
   rotate_left; focus (simp only [Act.put, List.setIfInBounds_toArray, List.set_cons_zero, List.set_cons_succ, i64_w, i32_w]; rfl)
   refine join_ (σ := Nat × Nat) 2 backreachlaw11_SpanGrows.M38 (fun s_ => [(31, .agg #[.int .u64 t243, .int .u64 t244]), (36, .agg #[.int .u64 t245, .int .u64 t246]), (15, .pointer (some ⟨s_.1, 0, none⟩)), (16, .pointer (some ⟨s_.2, 0, none⟩))]) (fun s_ w' => (w'.cell? ⟨gb232, 0, none⟩ = some (.int .u64 a2_0) ∧ w'.cell? ⟨gb232, 1, none⟩ = some (.int .u64 a2_1) ∧ w'.cell? ⟨gb233, 0, none⟩ = some (.int .u64 a3_0) ∧ w'.cell? ⟨gb233, 1, none⟩ = some (.int .u64 a3_1) ∧ w'.cell? ⟨gb241, 0, none⟩ = some (.int .u64 t237) ∧ w'.cell? ⟨gb241, 1, none⟩ = some (.int .u64 t238) ∧ w'.cell? ⟨gb242, 0, none⟩ = some (.int .u64 t239) ∧ w'.cell? ⟨gb242, 1, none⟩ = some (.int .u64 t240)) ∧ (w'.heap[gb232]? = some (.cells #[.int .u64 a2_0, .int .u64 a2_1] 24 (0, 0))) ∧ (w'.heap[gb233]? = some (.cells #[.int .u64 a3_0, .int .u64 a3_1] 24 (0, 0))) ∧ (w'.heap[gb234]? = some (.cells #[.int .u64 a4_0, .int .u64 a4_1] 24 (0, 0))) ∧ (w'.heap[gb235]? = some (.cells #[.int .u64 a5_0, .int .u64 a5_1] 24 (0, 0))) ∧ (w'.heap[gb241]? = some (.cells #[.int .u64 t237, .int .u64 t238] 24 (0, 0))) ∧ (w'.heap[gb242]? = some (.cells #[.int .u64 t239, .int .u64 t240] 24 (0, 0))) ∧ (w'.heap[s_.1]? = some (.cells #[.int .u64 0, .int .u64 0] 24 (0, 0))) ∧ (w'.heap[s_.2]? = some (.cells #[.int .u64 0, .int .u64 0] 24 (0, 0))) ∧ (w.heap.size ≤ s_.1) ∧ (w.heap.size ≤ s_.1) ∧ (gb232 ≠ s_.1) ∧ (s_.1 ≠ gb232) ∧ (gb233 ≠ s_.1) ∧ (s_.1 ≠ gb233) ∧ (gb234 ≠ s_.1) ∧ (s_.1 ≠ gb234) ∧ (gb235 ≠ s_.1) ∧ (s_.1 ≠ gb235) ∧ (gb241 ≠ s_.1) ∧ (s_.1 ≠ gb241) ∧ (gb242 ≠ s_.1) ∧ (s_.1 ≠ gb242) ∧ (s_.2 ≠ s_.1) ∧ (s_.1 ≠ s_.2) ∧ (w.heap.size ≤ s_.2) ∧ (w.heap.size ≤ s_.2) ∧ (gb232 ≠ s_.2) ∧ (s_.2 ≠ gb232) ∧ (gb233 ≠ s_.2) ∧ (s_.2 ≠ gb233) ∧ (gb234 ≠ s_.2) ∧ (s_.2 ≠ gb234) ∧ (gb235 ≠ s_.2) ∧ (s_.2 ≠ gb235) ∧ (gb241 ≠ s_.2) ∧ (s_.2 ≠ gb241) ∧ (gb242 ≠ s_.2) ∧ (s_.2 ≠ gb242) ∧ (Below w.heap.size w w')) ?_ ?_
   rotate_left
   ·
    intro hJ4_9_10_11
    refine join_ (σ := Nat) 3 backreachlaw11_SpanGrows.M36 (fun s_ => [(31, .agg #[.int .u64 t243, .int .u64 t244]), (36, .agg #[.int .u64 t245, .int .u64 t246]), (15, .pointer (some ⟨s_, 0, none⟩))]) (fun s_ w' => (w'.cell? ⟨gb232, 0, none⟩ = some (.int .u64 a2_0) ∧ w'.cell? ⟨gb232, 1, none⟩ = some (.int .u64 a2_1) ∧ w'.cell? ⟨gb233, 0, none⟩ = some (.int .u64 a3_0) ∧ w'.cell? ⟨gb233, 1, none⟩ = some (.int .u64 a3_1) ∧ w'.cell? ⟨gb241, 0, none⟩ = some (.int .u64 t237) ∧ w'.cell? ⟨gb241, 1, none⟩ = some (.int .u64 t238) ∧ w'.cell? ⟨gb242, 0, none⟩ = some (.int .u64 t239) ∧ w'.cell? ⟨gb242, 1, none⟩ = some (.int .u64 t240)) ∧ (w'.heap[gb232]? = some (.cells #[.int .u64 a2_0, .int .u64 a2_1] 24 (0, 0))) ∧ (w'.heap[gb233]? = some (.cells #[.int .u64 a3_0, .int .u64 a3_1] 24 (0, 0))) ∧ (w'.heap[gb234]? = some (.cells #[.int .u64 a4_0, .int .u64 a4_1] 24 (0, 0))) ∧ (w'.heap[gb235]? = some (.cells #[.int .u64 a5_0, .int .u64 a5_1] 24 (0, 0))) ∧ (w'.heap[gb241]? = some (.cells #[.int .u64 t237, .int .u64 t238] 24 (0, 0))) ∧ (w'.heap[gb242]? = some (.cells #[.int .u64 t239, .int .u64 t240] 24 (0, 0))) ∧ (w'.heap[s_]? = some (.cells #[.int .u64 0, .int .u64 0] 24 (0, 0))) ∧ (w.heap.size ≤ s_) ∧ (w.heap.size ≤ s_) ∧ (gb232 ≠ s_) ∧ (s_ ≠ gb232) ∧ (gb233 ≠ s_) ∧ (s_ ≠ gb233) ∧ (gb234 ≠ s_) ∧ (s_ ≠ gb234) ∧ (gb235 ≠ s_) ∧ (s_ ≠ gb235) ∧ (gb241 ≠ s_) ∧ (s_ ≠ gb241) ∧ (gb242 ≠ s_) ∧ (s_ ≠ gb242) ∧ (Below w.heap.size w w')) ?_ ?_
    rotate_left
    ·
     intro hJ4_9_10
     refine join_ (σ := Nat) 3 backreachlaw11_SpanGrows.M35 (fun s_ => [(31, .agg #[.int .u64 t243, .int .u64 t244]), (36, .agg #[.int .u64 t245, .int .u64 t246]), (16, .pointer (some ⟨s_, 0, none⟩))]) (fun s_ w' => (w'.cell? ⟨gb232, 0, none⟩ = some (.int .u64 a2_0) ∧ w'.cell? ⟨gb232, 1, none⟩ = some (.int .u64 a2_1) ∧ w'.cell? ⟨gb233, 0, none⟩ = some (.int .u64 a3_0) ∧ w'.cell? ⟨gb233, 1, none⟩ = some (.int .u64 a3_1) ∧ w'.cell? ⟨gb241, 0, none⟩ = some (.int .u64 t237) ∧ w'.cell? ⟨gb241, 1, none⟩ = some (.int .u64 t238) ∧ w'.cell? ⟨gb242, 0, none⟩ = some (.int .u64 t239) ∧ w'.cell? ⟨gb242, 1, none⟩ = some (.int .u64 t240)) ∧ (w'.heap[gb232]? = some (.cells #[.int .u64 a2_0, .int .u64 a2_1] 24 (0, 0))) ∧ (w'.heap[gb233]? = some (.cells #[.int .u64 a3_0, .int .u64 a3_1] 24 (0, 0))) ∧ (w'.heap[gb234]? = some (.cells #[.int .u64 a4_0, .int .u64 a4_1] 24 (0, 0))) ∧ (w'.heap[gb235]? = some (.cells #[.int .u64 a5_0, .int .u64 a5_1] 24 (0, 0))) ∧ (w'.heap[gb241]? = some (.cells #[.int .u64 t237, .int .u64 t238] 24 (0, 0))) ∧ (w'.heap[gb242]? = some (.cells #[.int .u64 t239, .int .u64 t240] 24 (0, 0))) ∧ (w'.heap[s_]? = some (.cells #[.int .u64 0, .int .u64 0] 24 (0, 0))) ∧ (w.heap.size ≤ s_) ∧ (w.heap.size ≤ s_) ∧ (gb232 ≠ s_) ∧ (s_ ≠ gb232) ∧ (gb233 ≠ s_) ∧ (s_ ≠ gb233) ∧ (gb234 ≠ s_) ∧ (s_ ≠ gb234) ∧ (gb235 ≠ s_) ∧ (s_ ≠ gb235) ∧ (gb241 ≠ s_) ∧ (s_ ≠ gb241) ∧ (gb242 ≠ s_) ∧ (s_ ≠ gb242) ∧ (Below w.heap.size w w')) ?_ ?_
     rotate_left
     ·
      intro hJ4_9_11
      refine join_ (σ := Nat × Nat) 3 backreachlaw11_SpanGrows.M32 (fun s_ => [(31, .agg #[.int .u64 t243, .int .u64 t244]), (15, .pointer (some ⟨s_.1, 0, none⟩)), (16, .pointer (some ⟨s_.2, 0, none⟩))]) (fun s_ w' => (w'.cell? ⟨gb232, 0, none⟩ = some (.int .u64 a2_0) ∧ w'.cell? ⟨gb232, 1, none⟩ = some (.int .u64 a2_1) ∧ w'.cell? ⟨gb233, 0, none⟩ = some (.int .u64 a3_0) ∧ w'.cell? ⟨gb233, 1, none⟩ = some (.int .u64 a3_1) ∧ w'.cell? ⟨gb241, 0, none⟩ = some (.int .u64 t237) ∧ w'.cell? ⟨gb241, 1, none⟩ = some (.int .u64 t238) ∧ w'.cell? ⟨gb242, 0, none⟩ = some (.int .u64 t239) ∧ w'.cell? ⟨gb242, 1, none⟩ = some (.int .u64 t240)) ∧ (w'.heap[gb232]? = some (.cells #[.int .u64 a2_0, .int .u64 a2_1] 24 (0, 0))) ∧ (w'.heap[gb233]? = some (.cells #[.int .u64 a3_0, .int .u64 a3_1] 24 (0, 0))) ∧ (w'.heap[gb234]? = some (.cells #[.int .u64 a4_0, .int .u64 a4_1] 24 (0, 0))) ∧ (w'.heap[gb235]? = some (.cells #[.int .u64 a5_0, .int .u64 a5_1] 24 (0, 0))) ∧ (w'.heap[gb241]? = some (.cells #[.int .u64 t237, .int .u64 t238] 24 (0, 0))) ∧ (w'.heap[gb242]? = some (.cells #[.int .u64 t239, .int .u64 t240] 24 (0, 0))) ∧ (w'.heap[s_.1]? = some (.cells #[.int .u64 0, .int .u64 0] 24 (0, 0))) ∧ (w'.heap[s_.2]? = some (.cells #[.int .u64 0, .int .u64 0] 24 (0, 0))) ∧ (w.heap.size ≤ s_.1) ∧ (w.heap.size ≤ s_.1) ∧ (gb232 ≠ s_.1) ∧ (s_.1 ≠ gb232) ∧ (gb233 ≠ s_.1) ∧ (s_.1 ≠ gb233) ∧ (gb234 ≠ s_.1) ∧ (s_.1 ≠ gb234) ∧ (gb235 ≠ s_.1) ∧ (s_.1 ≠ gb235) ∧ (gb241 ≠ s_.1) ∧ (s_.1 ≠ gb241) ∧ (gb242 ≠ s_.1) ∧ (s_.1 ≠ gb242) ∧ (s_.2 ≠ s_.1) ∧ (s_.1 ≠ s_.2) ∧ (w.heap.size ≤ s_.2) ∧ (w.heap.size ≤ s_.2) ∧ (gb232 ≠ s_.2) ∧ (s_.2 ≠ gb232) ∧ (gb233 ≠ s_.2) ∧ (s_.2 ≠ gb233) ∧ (gb234 ≠ s_.2) ∧ (s_.2 ≠ gb234) ∧ (gb235 ≠ s_.2) ∧ (s_.2 ≠ gb235) ∧ (gb241 ≠ s_.2) ∧ (s_.2 ≠ gb241) ∧ (gb242 ≠ s_.2) ∧ (s_.2 ≠ gb242) ∧ (Below w.heap.size w w')) ?_ ?_
      rotate_left
      ·
       intro hJ4_10_11
       refine join_ (σ := Unit) 4 backreachlaw11_SpanGrows.M33 (fun s_ => [(31, .agg #[.int .u64 t243, .int .u64 t244]), (36, .agg #[.int .u64 t245, .int .u64 t246])]) (fun s_ w' => (w'.cell? ⟨gb232, 0, none⟩ = some (.int .u64 a2_0) ∧ w'.cell? ⟨gb232, 1, none⟩ = some (.int .u64 a2_1) ∧ w'.cell? ⟨gb233, 0, none⟩ = some (.int .u64 a3_0) ∧ w'.cell? ⟨gb233, 1, none⟩ = some (.int .u64 a3_1) ∧ w'.cell? ⟨gb241, 0, none⟩ = some (.int .u64 t237) ∧ w'.cell? ⟨gb241, 1, none⟩ = some (.int .u64 t238) ∧ w'.cell? ⟨gb242, 0, none⟩ = some (.int .u64 t239) ∧ w'.cell? ⟨gb242, 1, none⟩ = some (.int .u64 t240)) ∧ (w'.heap[gb232]? = some (.cells #[.int .u64 a2_0, .int .u64 a2_1] 24 (0, 0))) ∧ (w'.heap[gb233]? = some (.cells #[.int .u64 a3_0, .int .u64 a3_1] 24 (0, 0))) ∧ (w'.heap[gb234]? = some (.cells #[.int .u64 a4_0, .int .u64 a4_1] 24 (0, 0))) ∧ (w'.heap[gb235]? = some (.cells #[.int .u64 a5_0, .int .u64 a5_1] 24 (0, 0))) ∧ (w'.heap[gb241]? = some (.cells #[.int .u64 t237, .int .u64 t238] 24 (0, 0))) ∧ (w'.heap[gb242]? = some (.cells #[.int .u64 t239, .int .u64 t240] 24 (0, 0))) ∧ (Below w.heap.size w w')) ?_ ?_
       rotate_left
       ·
        intro hJ4_9
        refine join_ (σ := Nat) 4 backreachlaw11_SpanGrows.M31 (fun s_ => [(31, .agg #[.int .u64 t243, .int .u64 t244]), (15, .pointer (some ⟨s_, 0, none⟩))]) (fun s_ w' => (w'.cell? ⟨gb232, 0, none⟩ = some (.int .u64 a2_0) ∧ w'.cell? ⟨gb232, 1, none⟩ = some (.int .u64 a2_1) ∧ w'.cell? ⟨gb233, 0, none⟩ = some (.int .u64 a3_0) ∧ w'.cell? ⟨gb233, 1, none⟩ = some (.int .u64 a3_1) ∧ w'.cell? ⟨gb241, 0, none⟩ = some (.int .u64 t237) ∧ w'.cell? ⟨gb241, 1, none⟩ = some (.int .u64 t238) ∧ w'.cell? ⟨gb242, 0, none⟩ = some (.int .u64 t239) ∧ w'.cell? ⟨gb242, 1, none⟩ = some (.int .u64 t240)) ∧ (w'.heap[gb232]? = some (.cells #[.int .u64 a2_0, .int .u64 a2_1] 24 (0, 0))) ∧ (w'.heap[gb233]? = some (.cells #[.int .u64 a3_0, .int .u64 a3_1] 24 (0, 0))) ∧ (w'.heap[gb234]? = some (.cells #[.int .u64 a4_0, .int .u64 a4_1] 24 (0, 0))) ∧ (w'.heap[gb235]? = some (.cells #[.int .u64 a5_0, .int .u64 a5_1] 24 (0, 0))) ∧ (w'.heap[gb241]? = some (.cells #[.int .u64 t237, .int .u64 t238] 24 (0, 0))) ∧ (w'.heap[gb242]? = some (.cells #[.int .u64 t239, .int .u64 t240] 24 (0, 0))) ∧ (w'.heap[s_]? = some (.cells #[.int .u64 0, .int .u64 0] 24 (0, 0))) ∧ (w.heap.size ≤ s_) ∧ (w.heap.size ≤ s_) ∧ (gb232 ≠ s_) ∧ (s_ ≠ gb232) ∧ (gb233 ≠ s_) ∧ (s_ ≠ gb233) ∧ (gb234 ≠ s_) ∧ (s_ ≠ gb234) ∧ (gb235 ≠ s_) ∧ (s_ ≠ gb235) ∧ (gb241 ≠ s_) ∧ (s_ ≠ gb241) ∧ (gb242 ≠ s_) ∧ (s_ ≠ gb242) ∧ (Below w.heap.size w w')) ?_ ?_
        rotate_left
        ·
         intro hJ4_10
         refine join_ (σ := Nat) 4 backreachlaw11_SpanGrows.M30 (fun s_ => [(31, .agg #[.int .u64 t243, .int .u64 t244]), (16, .pointer (some ⟨s_, 0, none⟩))]) (fun s_ w' => (w'.cell? ⟨gb232, 0, none⟩ = some (.int .u64 a2_0) ∧ w'.cell? ⟨gb232, 1, none⟩ = some (.int .u64 a2_1) ∧ w'.cell? ⟨gb233, 0, none⟩ = some (.int .u64 a3_0) ∧ w'.cell? ⟨gb233, 1, none⟩ = some (.int .u64 a3_1) ∧ w'.cell? ⟨gb241, 0, none⟩ = some (.int .u64 t237) ∧ w'.cell? ⟨gb241, 1, none⟩ = some (.int .u64 t238) ∧ w'.cell? ⟨gb242, 0, none⟩ = some (.int .u64 t239) ∧ w'.cell? ⟨gb242, 1, none⟩ = some (.int .u64 t240)) ∧ (w'.heap[gb232]? = some (.cells #[.int .u64 a2_0, .int .u64 a2_1] 24 (0, 0))) ∧ (w'.heap[gb233]? = some (.cells #[.int .u64 a3_0, .int .u64 a3_1] 24 (0, 0))) ∧ (w'.heap[gb234]? = some (.cells #[.int .u64 a4_0, .int .u64 a4_1] 24 (0, 0))) ∧ (w'.heap[gb235]? = some (.cells #[.int .u64 a5_0, .int .u64 a5_1] 24 (0, 0))) ∧ (w'.heap[gb241]? = some (.cells #[.int .u64 t237, .int .u64 t238] 24 (0, 0))) ∧ (w'.heap[gb242]? = some (.cells #[.int .u64 t239, .int .u64 t240] 24 (0, 0))) ∧ (w'.heap[s_]? = some (.cells #[.int .u64 0, .int .u64 0] 24 (0, 0))) ∧ (w.heap.size ≤ s_) ∧ (w.heap.size ≤ s_) ∧ (gb232 ≠ s_) ∧ (s_ ≠ gb232) ∧ (gb233 ≠ s_) ∧ (s_ ≠ gb233) ∧ (gb234 ≠ s_) ∧ (s_ ≠ gb234) ∧ (gb235 ≠ s_) ∧ (s_ ≠ gb235) ∧ (gb241 ≠ s_) ∧ (s_ ≠ gb241) ∧ (gb242 ≠ s_) ∧ (s_ ≠ gb242) ∧ (Below w.heap.size w w')) ?_ ?_
         rotate_left
         ·
          intro hJ4_11
          refine join_ (σ := Nat × Nat) 4 backreachlaw11_SpanGrows.M21 (fun s_ => [(15, .pointer (some ⟨s_.1, 0, none⟩)), (16, .pointer (some ⟨s_.2, 0, none⟩))]) (fun s_ w' => (w'.cell? ⟨gb232, 0, none⟩ = some (.int .u64 a2_0) ∧ w'.cell? ⟨gb232, 1, none⟩ = some (.int .u64 a2_1) ∧ w'.cell? ⟨gb233, 0, none⟩ = some (.int .u64 a3_0) ∧ w'.cell? ⟨gb233, 1, none⟩ = some (.int .u64 a3_1) ∧ w'.cell? ⟨gb241, 0, none⟩ = some (.int .u64 t237) ∧ w'.cell? ⟨gb241, 1, none⟩ = some (.int .u64 t238) ∧ w'.cell? ⟨gb242, 0, none⟩ = some (.int .u64 t239) ∧ w'.cell? ⟨gb242, 1, none⟩ = some (.int .u64 t240)) ∧ (w'.heap[gb232]? = some (.cells #[.int .u64 a2_0, .int .u64 a2_1] 24 (0, 0))) ∧ (w'.heap[gb233]? = some (.cells #[.int .u64 a3_0, .int .u64 a3_1] 24 (0, 0))) ∧ (w'.heap[gb234]? = some (.cells #[.int .u64 a4_0, .int .u64 a4_1] 24 (0, 0))) ∧ (w'.heap[gb235]? = some (.cells #[.int .u64 a5_0, .int .u64 a5_1] 24 (0, 0))) ∧ (w'.heap[gb241]? = some (.cells #[.int .u64 t237, .int .u64 t238] 24 (0, 0))) ∧ (w'.heap[gb242]? = some (.cells #[.int .u64 t239, .int .u64 t240] 24 (0, 0))) ∧ (w'.heap[s_.1]? = some (.cells #[.int .u64 0, .int .u64 0] 24 (0, 0))) ∧ (w'.heap[s_.2]? = some (.cells #[.int .u64 0, .int .u64 0] 24 (0, 0))) ∧ (w.heap.size ≤ s_.1) ∧ (w.heap.size ≤ s_.1) ∧ (gb232 ≠ s_.1) ∧ (s_.1 ≠ gb232) ∧ (gb233 ≠ s_.1) ∧ (s_.1 ≠ gb233) ∧ (gb234 ≠ s_.1) ∧ (s_.1 ≠ gb234) ∧ (gb235 ≠ s_.1) ∧ (s_.1 ≠ gb235) ∧ (gb241 ≠ s_.1) ∧ (s_.1 ≠ gb241) ∧ (gb242 ≠ s_.1) ∧ (s_.1 ≠ gb242) ∧ (s_.2 ≠ s_.1) ∧ (s_.1 ≠ s_.2) ∧ (w.heap.size ≤ s_.2) ∧ (w.heap.size ≤ s_.2) ∧ (gb232 ≠ s_.2) ∧ (s_.2 ≠ gb232) ∧ (gb233 ≠ s_.2) ∧ (s_.2 ≠ gb233) ∧ (gb234 ≠ s_.2) ∧ (s_.2 ≠ gb234) ∧ (gb235 ≠ s_.2) ∧ (s_.2 ≠ gb235) ∧ (gb241 ≠ s_.2) ∧ (s_.2 ≠ gb241) ∧ (gb242 ≠ s_.2) ∧ (s_.2 ≠ gb242) ∧ (Below w.heap.size w w')) ?_ ?_
          rotate_left
          ·
           intro hJ10_11
           refine join_ (σ := Unit) 5 backreachlaw11_SpanGrows.M28 (fun s_ => [(31, .agg #[.int .u64 t243, .int .u64 t244])]) (fun s_ w' => (w'.cell? ⟨gb232, 0, none⟩ = some (.int .u64 a2_0) ∧ w'.cell? ⟨gb232, 1, none⟩ = some (.int .u64 a2_1) ∧ w'.cell? ⟨gb233, 0, none⟩ = some (.int .u64 a3_0) ∧ w'.cell? ⟨gb233, 1, none⟩ = some (.int .u64 a3_1) ∧ w'.cell? ⟨gb241, 0, none⟩ = some (.int .u64 t237) ∧ w'.cell? ⟨gb241, 1, none⟩ = some (.int .u64 t238) ∧ w'.cell? ⟨gb242, 0, none⟩ = some (.int .u64 t239) ∧ w'.cell? ⟨gb242, 1, none⟩ = some (.int .u64 t240)) ∧ (w'.heap[gb232]? = some (.cells #[.int .u64 a2_0, .int .u64 a2_1] 24 (0, 0))) ∧ (w'.heap[gb233]? = some (.cells #[.int .u64 a3_0, .int .u64 a3_1] 24 (0, 0))) ∧ (w'.heap[gb234]? = some (.cells #[.int .u64 a4_0, .int .u64 a4_1] 24 (0, 0))) ∧ (w'.heap[gb235]? = some (.cells #[.int .u64 a5_0, .int .u64 a5_1] 24 (0, 0))) ∧ (w'.heap[gb241]? = some (.cells #[.int .u64 t237, .int .u64 t238] 24 (0, 0))) ∧ (w'.heap[gb242]? = some (.cells #[.int .u64 t239, .int .u64 t240] 24 (0, 0))) ∧ (Below w.heap.size w w')) ?_ ?_
           rotate_left
           ·
            intro hJ4
            refine join_ (σ := Nat) 5 backreachlaw11_SpanGrows.M20 (fun s_ => [(15, .pointer (some ⟨s_, 0, none⟩))]) (fun s_ w' => (w'.cell? ⟨gb232, 0, none⟩ = some (.int .u64 a2_0) ∧ w'.cell? ⟨gb232, 1, none⟩ = some (.int .u64 a2_1) ∧ w'.cell? ⟨gb233, 0, none⟩ = some (.int .u64 a3_0) ∧ w'.cell? ⟨gb233, 1, none⟩ = some (.int .u64 a3_1) ∧ w'.cell? ⟨gb241, 0, none⟩ = some (.int .u64 t237) ∧ w'.cell? ⟨gb241, 1, none⟩ = some (.int .u64 t238) ∧ w'.cell? ⟨gb242, 0, none⟩ = some (.int .u64 t239) ∧ w'.cell? ⟨gb242, 1, none⟩ = some (.int .u64 t240)) ∧ (w'.heap[gb232]? = some (.cells #[.int .u64 a2_0, .int .u64 a2_1] 24 (0, 0))) ∧ (w'.heap[gb233]? = some (.cells #[.int .u64 a3_0, .int .u64 a3_1] 24 (0, 0))) ∧ (w'.heap[gb234]? = some (.cells #[.int .u64 a4_0, .int .u64 a4_1] 24 (0, 0))) ∧ (w'.heap[gb235]? = some (.cells #[.int .u64 a5_0, .int .u64 a5_1] 24 (0, 0))) ∧ (w'.heap[gb241]? = some (.cells #[.int .u64 t237, .int .u64 t238] 24 (0, 0))) ∧ (w'.heap[gb242]? = some (.cells #[.int .u64 t239, .int .u64 t240] 24 (0, 0))) ∧ (w'.heap[s_]? = some (.cells #[.int .u64 0, .int .u64 0] 24 (0, 0))) ∧ (w.heap.size ≤ s_) ∧ (w.heap.size ≤ s_) ∧ (gb232 ≠ s_) ∧ (s_ ≠ gb232) ∧ (gb233 ≠ s_) ∧ (s_ ≠ gb233) ∧ (gb234 ≠ s_) ∧ (s_ ≠ gb234) ∧ (gb235 ≠ s_) ∧ (s_ ≠ gb235) ∧ (gb241 ≠ s_) ∧ (s_ ≠ gb241) ∧ (gb242 ≠ s_) ∧ (s_ ≠ gb242) ∧ (Below w.heap.size w w')) ?_ ?_
            rotate_left
            ·
             intro hJ10
             refine join_ (σ := Nat) 5 backreachlaw11_SpanGrows.M19 (fun s_ => [(16, .pointer (some ⟨s_, 0, none⟩))]) (fun s_ w' => (w'.cell? ⟨gb232, 0, none⟩ = some (.int .u64 a2_0) ∧ w'.cell? ⟨gb232, 1, none⟩ = some (.int .u64 a2_1) ∧ w'.cell? ⟨gb233, 0, none⟩ = some (.int .u64 a3_0) ∧ w'.cell? ⟨gb233, 1, none⟩ = some (.int .u64 a3_1) ∧ w'.cell? ⟨gb241, 0, none⟩ = some (.int .u64 t237) ∧ w'.cell? ⟨gb241, 1, none⟩ = some (.int .u64 t238) ∧ w'.cell? ⟨gb242, 0, none⟩ = some (.int .u64 t239) ∧ w'.cell? ⟨gb242, 1, none⟩ = some (.int .u64 t240)) ∧ (w'.heap[gb232]? = some (.cells #[.int .u64 a2_0, .int .u64 a2_1] 24 (0, 0))) ∧ (w'.heap[gb233]? = some (.cells #[.int .u64 a3_0, .int .u64 a3_1] 24 (0, 0))) ∧ (w'.heap[gb234]? = some (.cells #[.int .u64 a4_0, .int .u64 a4_1] 24 (0, 0))) ∧ (w'.heap[gb235]? = some (.cells #[.int .u64 a5_0, .int .u64 a5_1] 24 (0, 0))) ∧ (w'.heap[gb241]? = some (.cells #[.int .u64 t237, .int .u64 t238] 24 (0, 0))) ∧ (w'.heap[gb242]? = some (.cells #[.int .u64 t239, .int .u64 t240] 24 (0, 0))) ∧ (w'.heap[s_]? = some (.cells #[.int .u64 0, .int .u64 0] 24 (0, 0))) ∧ (w.heap.size ≤ s_) ∧ (w.heap.size ≤ s_) ∧ (gb232 ≠ s_) ∧ (s_ ≠ gb232) ∧ (gb233 ≠ s_) ∧ (s_ ≠ gb233) ∧ (gb234 ≠ s_) ∧ (s_ ≠ gb234) ∧ (gb235 ≠ s_) ∧ (s_ ≠ gb235) ∧ (gb241 ≠ s_) ∧ (s_ ≠ gb241) ∧ (gb242 ≠ s_) ∧ (s_ ≠ gb242) ∧ (Below w.heap.size w w')) ?_ ?_
             rotate_left
             ·
              intro hJ11
              refine three_ (i := 4) (j := 10) (k := 11) (Ni := some 31) (Nj := some 15) (Nk := some 16) backreachlaw11_SpanGrows.M28 backreachlaw11_SpanGrows.M20 backreachlaw11_SpanGrows.M19 rfl rfl rfl rfl rfl rfl (three_of HT_.out (by kernel_rfl)) (by decide) (by decide) (by decide) (fun K hK => ?_) (fun K hK => ?_) (fun K hK => ?_)
              ·
               skip
               refine goes_ Try.func10 (by kernel_rfl) rfl #[.int .i64 a0, .int .i64 a1, .agg #[.int .u64 a2_0, .int .u64 a2_1], .agg #[.int .u64 a3_0, .int .u64 a3_1]] (by rfl) rfl rfl (by (try simp only [List.map_toArray, List.map_cons, List.map_nil]); first | done | rfl | (simp only [List.length_drop, List.length_take]; rfl)) ?_
               with_reducible refine (span_Apply.calls k a0 a1 a2_0 a2_1 a3_0 a3_1 t243 t244 _ A11.out).mono ?_
               rintro e w31 ⟨rfl, hb⟩
               refine ⟨_, rfl, ?_⟩
               have n0_ := Aside0.mk (bbq BK232 hb)
               have n1_ := Aside0.mk (bbq BK233 hb)
               have n2_ := Aside0.mk (bbq BK234 hb)
               have n3_ := Aside0.mk (bbq BK235 hb)
               have n4_ := Aside0.mk (bbq BK241 hb)
               have n5_ := Aside0.mk (bbq BK242 hb)
               have n6_ := Aside0.mk (below_step (hbq HB) hb)
               clear BK232 BK233 BK234 BK235 BK241 BK242 HB
               have BK232 := n0_
               have BK233 := n1_
               have BK234 := n2_
               have BK235 := n3_
               have BK241 := n4_
               have BK242 := n5_
               have HB := n6_
               clear n0_ n1_ n2_ n3_ n4_ n5_ n6_
               (try clear hb)
               (try clear hb2)
               (try clear hk)
               (try clear hi)
               refine hK.out _ _ ⟨(blk_cell BK232.out 0).trans rfl, (blk_cell BK232.out 1).trans rfl, (blk_cell BK233.out 0).trans rfl, (blk_cell BK233.out 1).trans rfl, (blk_cell BK241.out 0).trans rfl, (blk_cell BK241.out 1).trans rfl, (blk_cell BK242.out 0).trans rfl, (blk_cell BK242.out 1).trans rfl⟩ (fun hHeld => ?_)
               clear hK K
               refine norm_ (a' := ?_) ?_ ?_
               rotate_left
               ·
                show Act.put _ (some 31) _ = _
                simp only [Act.put, List.setIfInBounds_toArray, List.set_cons_zero, List.set_cons_succ, i64_w, i32_w]
                rfl
               exact nq_ (hJ4 () _ ⟨hHeld, (bkq BK232), (bkq BK233), (bkq BK234), (bkq BK235), (bkq BK241), (bkq BK242), (hbq HB)⟩)
              ·
               skip
               refine box_step ?hg (N := 15) ?hd (cs := #[.int .u64 0, .int .u64 0]) (t := 24) ?hr ?_; (case hd => rfl); (case hg => rfl); (case hr => first | (go_simp; done) | (go_simp; rfl))
               intro gb247 hg w31 hbox hb
               have n0_ := Aside0.mk (bbq BK232 hb)
               have n1_ := Aside0.mk (bbq BK233 hb)
               have n2_ := Aside0.mk (bbq BK234 hb)
               have n3_ := Aside0.mk (bbq BK235 hb)
               have n4_ := Aside0.mk (bbq BK241 hb)
               have n5_ := Aside0.mk (bbq BK242 hb)
               have n6_ := Aside0.mk (below_step (hbq HB) hb)
               have n7_ := Aside0.mk (hbox)
               have n8_ := Aside0.mk ((bsq hg HB : w.heap.size ≤ gb247))
               have n9_ := Aside0.mk ((bsq hg HB : w.heap.size ≤ gb247))
               have n10_ := Aside0.mk ((nlq hg BK232 : gb232 ≠ gb247))
               have n11_ := Aside0.mk ((ngq hg BK232 : gb247 ≠ gb232))
               have n12_ := Aside0.mk ((nlq hg BK233 : gb233 ≠ gb247))
               have n13_ := Aside0.mk ((ngq hg BK233 : gb247 ≠ gb233))
               have n14_ := Aside0.mk ((nlq hg BK234 : gb234 ≠ gb247))
               have n15_ := Aside0.mk ((ngq hg BK234 : gb247 ≠ gb234))
               have n16_ := Aside0.mk ((nlq hg BK235 : gb235 ≠ gb247))
               have n17_ := Aside0.mk ((ngq hg BK235 : gb247 ≠ gb235))
               have n18_ := Aside0.mk ((nlq hg BK241 : gb241 ≠ gb247))
               have n19_ := Aside0.mk ((ngq hg BK241 : gb247 ≠ gb241))
               have n20_ := Aside0.mk ((nlq hg BK242 : gb242 ≠ gb247))
               have n21_ := Aside0.mk ((ngq hg BK242 : gb247 ≠ gb242))
               clear BK232 BK233 BK234 BK235 BK241 BK242 HB
               have BK232 := n0_
               have BK233 := n1_
               have BK234 := n2_
               have BK235 := n3_
               have BK241 := n4_
               have BK242 := n5_
               have HB := n6_
               have BK247 := n7_
               have GW247 := n8_
               have GE247 := n9_
               have NB232_247 := n10_
               have NB247_232 := n11_
               have NB233_247 := n12_
               have NB247_233 := n13_
               have NB234_247 := n14_
               have NB247_234 := n15_
               have NB235_247 := n16_
               have NB247_235 := n17_
               have NB241_247 := n18_
               have NB247_241 := n19_
               have NB242_247 := n20_
               have NB247_242 := n21_
               clear n0_ n1_ n2_ n3_ n4_ n5_ n6_ n7_ n8_ n9_ n10_ n11_ n12_ n13_ n14_ n15_ n16_ n17_ n18_ n19_ n20_ n21_ hb hbox hg
               refine hK.out _ _ ⟨(blk_cell BK232.out 0).trans rfl, (blk_cell BK232.out 1).trans rfl, (blk_cell BK233.out 0).trans rfl, (blk_cell BK233.out 1).trans rfl, (blk_cell BK241.out 0).trans rfl, (blk_cell BK241.out 1).trans rfl, (blk_cell BK242.out 0).trans rfl, (blk_cell BK242.out 1).trans rfl⟩ (fun hHeld => ?_)
               clear hK K
               refine norm_ (a' := ?_) ?_ ?_
               rotate_left
               ·
                show Act.put _ (some 15) _ = _
                simp only [Act.put, List.setIfInBounds_toArray, List.set_cons_zero, List.set_cons_succ, i64_w, i32_w]
                rfl
               exact nq_ (hJ10 (gb247) _ ⟨hHeld, (bkq BK232), (bkq BK233), (bkq BK234), (bkq BK235), (bkq BK241), (bkq BK242), (bkq BK247), GW247.out, GE247.out, NB232_247.out, NB247_232.out, NB233_247.out, NB247_233.out, NB234_247.out, NB247_234.out, NB235_247.out, NB247_235.out, NB241_247.out, NB247_241.out, NB242_247.out, NB247_242.out, (hbq HB)⟩)
              ·
               skip
               refine box_step ?hg (N := 16) ?hd (cs := #[.int .u64 0, .int .u64 0]) (t := 24) ?hr ?_; (case hd => rfl); (case hg => rfl); (case hr => first | (go_simp; done) | (go_simp; rfl))
               intro gb248 hg w31 hbox hb
               have n0_ := Aside0.mk (bbq BK232 hb)
               have n1_ := Aside0.mk (bbq BK233 hb)
               have n2_ := Aside0.mk (bbq BK234 hb)
               have n3_ := Aside0.mk (bbq BK235 hb)
               have n4_ := Aside0.mk (bbq BK241 hb)
               have n5_ := Aside0.mk (bbq BK242 hb)
               have n6_ := Aside0.mk (below_step (hbq HB) hb)
               have n7_ := Aside0.mk (hbox)
               have n8_ := Aside0.mk ((bsq hg HB : w.heap.size ≤ gb248))
               have n9_ := Aside0.mk ((bsq hg HB : w.heap.size ≤ gb248))
               have n10_ := Aside0.mk ((nlq hg BK232 : gb232 ≠ gb248))
               have n11_ := Aside0.mk ((ngq hg BK232 : gb248 ≠ gb232))
               have n12_ := Aside0.mk ((nlq hg BK233 : gb233 ≠ gb248))
               have n13_ := Aside0.mk ((ngq hg BK233 : gb248 ≠ gb233))
               have n14_ := Aside0.mk ((nlq hg BK234 : gb234 ≠ gb248))
               have n15_ := Aside0.mk ((ngq hg BK234 : gb248 ≠ gb234))
               have n16_ := Aside0.mk ((nlq hg BK235 : gb235 ≠ gb248))
               have n17_ := Aside0.mk ((ngq hg BK235 : gb248 ≠ gb235))
               have n18_ := Aside0.mk ((nlq hg BK241 : gb241 ≠ gb248))
               have n19_ := Aside0.mk ((ngq hg BK241 : gb248 ≠ gb241))
               have n20_ := Aside0.mk ((nlq hg BK242 : gb242 ≠ gb248))
               have n21_ := Aside0.mk ((ngq hg BK242 : gb248 ≠ gb242))
               clear BK232 BK233 BK234 BK235 BK241 BK242 HB
               have BK232 := n0_
               have BK233 := n1_
               have BK234 := n2_
               have BK235 := n3_
               have BK241 := n4_
               have BK242 := n5_
               have HB := n6_
               have BK248 := n7_
               have GW248 := n8_
               have GE248 := n9_
               have NB232_248 := n10_
               have NB248_232 := n11_
               have NB233_248 := n12_
               have NB248_233 := n13_
               have NB234_248 := n14_
               have NB248_234 := n15_
               have NB235_248 := n16_
               have NB248_235 := n17_
               have NB241_248 := n18_
               have NB248_241 := n19_
               have NB242_248 := n20_
               have NB248_242 := n21_
               clear n0_ n1_ n2_ n3_ n4_ n5_ n6_ n7_ n8_ n9_ n10_ n11_ n12_ n13_ n14_ n15_ n16_ n17_ n18_ n19_ n20_ n21_ hb hbox hg
               refine hK.out _ _ ⟨(blk_cell BK232.out 0).trans rfl, (blk_cell BK232.out 1).trans rfl, (blk_cell BK233.out 0).trans rfl, (blk_cell BK233.out 1).trans rfl, (blk_cell BK241.out 0).trans rfl, (blk_cell BK241.out 1).trans rfl, (blk_cell BK242.out 0).trans rfl, (blk_cell BK242.out 1).trans rfl⟩ (fun hHeld => ?_)
               clear hK K
               refine norm_ (a' := ?_) ?_ ?_
               rotate_left
               ·
                show Act.put _ (some 16) _ = _
                simp only [Act.put, List.setIfInBounds_toArray, List.set_cons_zero, List.set_cons_succ, i64_w, i32_w]
                rfl
               exact nq_ (hJ11 (gb248) _ ⟨hHeld, (bkq BK232), (bkq BK233), (bkq BK234), (bkq BK235), (bkq BK241), (bkq BK242), (bkq BK248), GW248.out, GE248.out, NB232_248.out, NB248_232.out, NB233_248.out, NB248_233.out, NB234_248.out, NB248_234.out, NB235_248.out, NB248_235.out, NB241_248.out, NB248_241.out, NB242_248.out, NB248_242.out, (hbq HB)⟩)
             ·
              skip
              rintro gb248 w32 ⟨hS_, h0_, h1_, h2_, h3_, h4_, h5_, h6_, h7_, h8_, h9_, h10_, h11_, h12_, h13_, h14_, h15_, h16_, h17_, h18_, h19_, h20_, h21_⟩
              have n0_ : Aside0 (w32.heap[gb232]? = some (.cells #[.int .u64 a2_0, .int .u64 a2_1] 24 (0, 0))) := ⟨h0_⟩
              have n1_ : Aside0 (w32.heap[gb233]? = some (.cells #[.int .u64 a3_0, .int .u64 a3_1] 24 (0, 0))) := ⟨h1_⟩
              have n2_ : Aside0 (w32.heap[gb234]? = some (.cells #[.int .u64 a4_0, .int .u64 a4_1] 24 (0, 0))) := ⟨h2_⟩
              have n3_ : Aside0 (w32.heap[gb235]? = some (.cells #[.int .u64 a5_0, .int .u64 a5_1] 24 (0, 0))) := ⟨h3_⟩
              have n4_ : Aside0 (w32.heap[gb241]? = some (.cells #[.int .u64 t237, .int .u64 t238] 24 (0, 0))) := ⟨h4_⟩
              have n5_ : Aside0 (w32.heap[gb242]? = some (.cells #[.int .u64 t239, .int .u64 t240] 24 (0, 0))) := ⟨h5_⟩
              have n6_ : Aside0 (w32.heap[gb248]? = some (.cells #[.int .u64 0, .int .u64 0] 24 (0, 0))) := ⟨h6_⟩
              have n7_ : Aside0 (w.heap.size ≤ gb248) := ⟨h7_⟩
              have n8_ : Aside0 (w.heap.size ≤ gb248) := ⟨h8_⟩
              have n9_ : Aside0 (gb232 ≠ gb248) := ⟨h9_⟩
              have n10_ : Aside0 (gb248 ≠ gb232) := ⟨h10_⟩
              have n11_ : Aside0 (gb233 ≠ gb248) := ⟨h11_⟩
              have n12_ : Aside0 (gb248 ≠ gb233) := ⟨h12_⟩
              have n13_ : Aside0 (gb234 ≠ gb248) := ⟨h13_⟩
              have n14_ : Aside0 (gb248 ≠ gb234) := ⟨h14_⟩
              have n15_ : Aside0 (gb235 ≠ gb248) := ⟨h15_⟩
              have n16_ : Aside0 (gb248 ≠ gb235) := ⟨h16_⟩
              have n17_ : Aside0 (gb241 ≠ gb248) := ⟨h17_⟩
              have n18_ : Aside0 (gb248 ≠ gb241) := ⟨h18_⟩
              have n19_ : Aside0 (gb242 ≠ gb248) := ⟨h19_⟩
              have n20_ : Aside0 (gb248 ≠ gb242) := ⟨h20_⟩
              have n21_ : Aside0 (Below w.heap.size w w32) := ⟨h21_⟩
              clear BK232 BK233 BK234 BK235 BK241 BK242 HB h0_ h1_ h2_ h3_ h4_ h5_ h6_ h7_ h8_ h9_ h10_ h11_ h12_ h13_ h14_ h15_ h16_ h17_ h18_ h19_ h20_ h21_
              have BK232 := n0_
              have BK233 := n1_
              have BK234 := n2_
              have BK235 := n3_
              have BK241 := n4_
              have BK242 := n5_
              have BK248 := n6_
              have GW248 := n7_
              have GE248 := n8_
              have NB232_248 := n9_
              have NB248_232 := n10_
              have NB233_248 := n11_
              have NB248_233 := n12_
              have NB234_248 := n13_
              have NB248_234 := n14_
              have NB235_248 := n15_
              have NB248_235 := n16_
              have NB241_248 := n17_
              have NB248_241 := n18_
              have NB242_248 := n19_
              have NB248_242 := n20_
              have HB := n21_
              clear n0_ n1_ n2_ n3_ n4_ n5_ n6_ n7_ n8_ n9_ n10_ n11_ n12_ n13_ n14_ n15_ n16_ n17_ n18_ n19_ n20_ n21_
              have hHeld : w32.cell? ⟨gb232, 0, none⟩ = some (.int .u64 a2_0) ∧ w32.cell? ⟨gb232, 1, none⟩ = some (.int .u64 a2_1) ∧ w32.cell? ⟨gb233, 0, none⟩ = some (.int .u64 a3_0) ∧ w32.cell? ⟨gb233, 1, none⟩ = some (.int .u64 a3_1) ∧ w32.cell? ⟨gb241, 0, none⟩ = some (.int .u64 t237) ∧ w32.cell? ⟨gb241, 1, none⟩ = some (.int .u64 t238) ∧ w32.cell? ⟨gb242, 0, none⟩ = some (.int .u64 t239) ∧ w32.cell? ⟨gb242, 1, none⟩ = some (.int .u64 t240) := hS_
              refine norm_ (a' := ?_) ?_ ?_
              rotate_left
              ·
               simp only [putAll, Act.put, List.setIfInBounds_toArray, List.set_cons_zero, List.set_cons_succ]
               rfl
              refine two_ (i := 4) (j := 10) (Ni := some 31) (Nj := some 15) backreachlaw11_SpanGrows.M30 backreachlaw11_SpanGrows.M21 rfl rfl rfl rfl (two_of HT_.out (by kernel_rfl)) (by decide) (by decide) (fun K hK => ?_) (fun K hK => ?_)
              ·
               skip
               refine goes_ Try.func10 (by kernel_rfl) rfl #[.int .i64 a0, .int .i64 a1, .agg #[.int .u64 a2_0, .int .u64 a2_1], .agg #[.int .u64 a3_0, .int .u64 a3_1]] (by rfl) rfl rfl (by (try simp only [List.map_toArray, List.map_cons, List.map_nil]); first | done | rfl | (simp only [List.length_drop, List.length_take]; rfl)) ?_
               with_reducible refine (span_Apply.calls k a0 a1 a2_0 a2_1 a3_0 a3_1 t243 t244 _ A11.out).mono ?_
               rintro e w33 ⟨rfl, hb⟩
               refine ⟨_, rfl, ?_⟩
               have n0_ := Aside0.mk (bbq BK232 hb)
               have n1_ := Aside0.mk (bbq BK233 hb)
               have n2_ := Aside0.mk (bbq BK234 hb)
               have n3_ := Aside0.mk (bbq BK235 hb)
               have n4_ := Aside0.mk (bbq BK241 hb)
               have n5_ := Aside0.mk (bbq BK242 hb)
               have n6_ := Aside0.mk (bbq BK248 hb)
               have n7_ := Aside0.mk (below_step (hbq HB) hb)
               clear BK232 BK233 BK234 BK235 BK241 BK242 BK248 HB
               have BK232 := n0_
               have BK233 := n1_
               have BK234 := n2_
               have BK235 := n3_
               have BK241 := n4_
               have BK242 := n5_
               have BK248 := n6_
               have HB := n7_
               clear n0_ n1_ n2_ n3_ n4_ n5_ n6_ n7_
               (try clear hb)
               (try clear hb2)
               (try clear hk)
               (try clear hi)
               refine hK.out _ _ ⟨(blk_cell BK232.out 0).trans rfl, (blk_cell BK232.out 1).trans rfl, (blk_cell BK233.out 0).trans rfl, (blk_cell BK233.out 1).trans rfl, (blk_cell BK241.out 0).trans rfl, (blk_cell BK241.out 1).trans rfl, (blk_cell BK242.out 0).trans rfl, (blk_cell BK242.out 1).trans rfl⟩ (fun hHeld => ?_)
               clear hK K
               refine norm_ (a' := ?_) ?_ ?_
               rotate_left
               ·
                show Act.put _ (some 31) _ = _
                simp only [Act.put, List.setIfInBounds_toArray, List.set_cons_zero, List.set_cons_succ, i64_w, i32_w]
                rfl
               exact nq_ (hJ4_11 (gb248) _ ⟨hHeld, (bkq BK232), (bkq BK233), (bkq BK234), (bkq BK235), (bkq BK241), (bkq BK242), (bkq BK248), GW248.out, GE248.out, NB232_248.out, NB248_232.out, NB233_248.out, NB248_233.out, NB234_248.out, NB248_234.out, NB235_248.out, NB248_235.out, NB241_248.out, NB248_241.out, NB242_248.out, NB248_242.out, (hbq HB)⟩)
              ·
               skip
               refine box_step ?hg (N := 15) ?hd (cs := #[.int .u64 0, .int .u64 0]) (t := 24) ?hr ?_; (case hd => rfl); (case hg => rfl); (case hr => first | (go_simp; done) | (go_simp; rfl))
               intro gb247 hg w33 hbox hb
               have n0_ := Aside0.mk (bbq BK232 hb)
               have n1_ := Aside0.mk (bbq BK233 hb)
               have n2_ := Aside0.mk (bbq BK234 hb)
               have n3_ := Aside0.mk (bbq BK235 hb)
               have n4_ := Aside0.mk (bbq BK241 hb)
               have n5_ := Aside0.mk (bbq BK242 hb)
               have n6_ := Aside0.mk (bbq BK248 hb)
               have n7_ := Aside0.mk (below_step (hbq HB) hb)
               have n8_ := Aside0.mk (hbox)
               have n9_ := Aside0.mk ((bsq hg HB : w.heap.size ≤ gb247))
               have n10_ := Aside0.mk ((bsq hg HB : w.heap.size ≤ gb247))
               have n11_ := Aside0.mk ((nlq hg BK232 : gb232 ≠ gb247))
               have n12_ := Aside0.mk ((ngq hg BK232 : gb247 ≠ gb232))
               have n13_ := Aside0.mk ((nlq hg BK233 : gb233 ≠ gb247))
               have n14_ := Aside0.mk ((ngq hg BK233 : gb247 ≠ gb233))
               have n15_ := Aside0.mk ((nlq hg BK234 : gb234 ≠ gb247))
               have n16_ := Aside0.mk ((ngq hg BK234 : gb247 ≠ gb234))
               have n17_ := Aside0.mk ((nlq hg BK235 : gb235 ≠ gb247))
               have n18_ := Aside0.mk ((ngq hg BK235 : gb247 ≠ gb235))
               have n19_ := Aside0.mk ((nlq hg BK241 : gb241 ≠ gb247))
               have n20_ := Aside0.mk ((ngq hg BK241 : gb247 ≠ gb241))
               have n21_ := Aside0.mk ((nlq hg BK242 : gb242 ≠ gb247))
               have n22_ := Aside0.mk ((ngq hg BK242 : gb247 ≠ gb242))
               have n23_ := Aside0.mk ((nlq hg BK248 : gb248 ≠ gb247))
               have n24_ := Aside0.mk ((ngq hg BK248 : gb247 ≠ gb248))
               clear BK232 BK233 BK234 BK235 BK241 BK242 BK248 HB
               have BK232 := n0_
               have BK233 := n1_
               have BK234 := n2_
               have BK235 := n3_
               have BK241 := n4_
               have BK242 := n5_
               have BK248 := n6_
               have HB := n7_
               have BK247 := n8_
               have GW247 := n9_
               have GE247 := n10_
               have NB232_247 := n11_
               have NB247_232 := n12_
               have NB233_247 := n13_
               have NB247_233 := n14_
               have NB234_247 := n15_
               have NB247_234 := n16_
               have NB235_247 := n17_
               have NB247_235 := n18_
               have NB241_247 := n19_
               have NB247_241 := n20_
               have NB242_247 := n21_
               have NB247_242 := n22_
               have NB248_247 := n23_
               have NB247_248 := n24_
               clear n0_ n1_ n2_ n3_ n4_ n5_ n6_ n7_ n8_ n9_ n10_ n11_ n12_ n13_ n14_ n15_ n16_ n17_ n18_ n19_ n20_ n21_ n22_ n23_ n24_ hb hbox hg
               refine hK.out _ _ ⟨(blk_cell BK232.out 0).trans rfl, (blk_cell BK232.out 1).trans rfl, (blk_cell BK233.out 0).trans rfl, (blk_cell BK233.out 1).trans rfl, (blk_cell BK241.out 0).trans rfl, (blk_cell BK241.out 1).trans rfl, (blk_cell BK242.out 0).trans rfl, (blk_cell BK242.out 1).trans rfl⟩ (fun hHeld => ?_)
               clear hK K
               refine norm_ (a' := ?_) ?_ ?_
               rotate_left
               ·
                show Act.put _ (some 15) _ = _
                simp only [Act.put, List.setIfInBounds_toArray, List.set_cons_zero, List.set_cons_succ, i64_w, i32_w]
                rfl
               exact nq_ (hJ10_11 (gb247, gb248) _ ⟨hHeld, (bkq BK232), (bkq BK233), (bkq BK234), (bkq BK235), (bkq BK241), (bkq BK242), (bkq BK247), (bkq BK248), GW247.out, GE247.out, NB232_247.out, NB247_232.out, NB233_247.out, NB247_233.out, NB234_247.out, NB247_234.out, NB235_247.out, NB247_235.out, NB241_247.out, NB247_241.out, NB242_247.out, NB247_242.out, NB248_247.out, NB247_248.out, GW248.out, GE248.out, NB232_248.out, NB248_232.out, NB233_248.out, NB248_233.out, NB234_248.out, NB248_234.out, NB235_248.out, NB248_235.out, NB241_248.out, NB248_241.out, NB242_248.out, NB248_242.out, (hbq HB)⟩)
            ·
             skip
             rintro gb247 w32 ⟨hS_, h0_, h1_, h2_, h3_, h4_, h5_, h6_, h7_, h8_, h9_, h10_, h11_, h12_, h13_, h14_, h15_, h16_, h17_, h18_, h19_, h20_, h21_⟩
             have n0_ : Aside0 (w32.heap[gb232]? = some (.cells #[.int .u64 a2_0, .int .u64 a2_1] 24 (0, 0))) := ⟨h0_⟩
             have n1_ : Aside0 (w32.heap[gb233]? = some (.cells #[.int .u64 a3_0, .int .u64 a3_1] 24 (0, 0))) := ⟨h1_⟩
             have n2_ : Aside0 (w32.heap[gb234]? = some (.cells #[.int .u64 a4_0, .int .u64 a4_1] 24 (0, 0))) := ⟨h2_⟩
             have n3_ : Aside0 (w32.heap[gb235]? = some (.cells #[.int .u64 a5_0, .int .u64 a5_1] 24 (0, 0))) := ⟨h3_⟩
             have n4_ : Aside0 (w32.heap[gb241]? = some (.cells #[.int .u64 t237, .int .u64 t238] 24 (0, 0))) := ⟨h4_⟩
             have n5_ : Aside0 (w32.heap[gb242]? = some (.cells #[.int .u64 t239, .int .u64 t240] 24 (0, 0))) := ⟨h5_⟩
             have n6_ : Aside0 (w32.heap[gb247]? = some (.cells #[.int .u64 0, .int .u64 0] 24 (0, 0))) := ⟨h6_⟩
             have n7_ : Aside0 (w.heap.size ≤ gb247) := ⟨h7_⟩
             have n8_ : Aside0 (w.heap.size ≤ gb247) := ⟨h8_⟩
             have n9_ : Aside0 (gb232 ≠ gb247) := ⟨h9_⟩
             have n10_ : Aside0 (gb247 ≠ gb232) := ⟨h10_⟩
             have n11_ : Aside0 (gb233 ≠ gb247) := ⟨h11_⟩
             have n12_ : Aside0 (gb247 ≠ gb233) := ⟨h12_⟩
             have n13_ : Aside0 (gb234 ≠ gb247) := ⟨h13_⟩
             have n14_ : Aside0 (gb247 ≠ gb234) := ⟨h14_⟩
             have n15_ : Aside0 (gb235 ≠ gb247) := ⟨h15_⟩
             have n16_ : Aside0 (gb247 ≠ gb235) := ⟨h16_⟩
             have n17_ : Aside0 (gb241 ≠ gb247) := ⟨h17_⟩
             have n18_ : Aside0 (gb247 ≠ gb241) := ⟨h18_⟩
             have n19_ : Aside0 (gb242 ≠ gb247) := ⟨h19_⟩
             have n20_ : Aside0 (gb247 ≠ gb242) := ⟨h20_⟩
             have n21_ : Aside0 (Below w.heap.size w w32) := ⟨h21_⟩
             clear BK232 BK233 BK234 BK235 BK241 BK242 HB h0_ h1_ h2_ h3_ h4_ h5_ h6_ h7_ h8_ h9_ h10_ h11_ h12_ h13_ h14_ h15_ h16_ h17_ h18_ h19_ h20_ h21_
             have BK232 := n0_
             have BK233 := n1_
             have BK234 := n2_
             have BK235 := n3_
             have BK241 := n4_
             have BK242 := n5_
             have BK247 := n6_
             have GW247 := n7_
             have GE247 := n8_
             have NB232_247 := n9_
             have NB247_232 := n10_
             have NB233_247 := n11_
             have NB247_233 := n12_
             have NB234_247 := n13_
             have NB247_234 := n14_
             have NB235_247 := n15_
             have NB247_235 := n16_
             have NB241_247 := n17_
             have NB247_241 := n18_
             have NB242_247 := n19_
             have NB247_242 := n20_
             have HB := n21_
             clear n0_ n1_ n2_ n3_ n4_ n5_ n6_ n7_ n8_ n9_ n10_ n11_ n12_ n13_ n14_ n15_ n16_ n17_ n18_ n19_ n20_ n21_
             have hHeld : w32.cell? ⟨gb232, 0, none⟩ = some (.int .u64 a2_0) ∧ w32.cell? ⟨gb232, 1, none⟩ = some (.int .u64 a2_1) ∧ w32.cell? ⟨gb233, 0, none⟩ = some (.int .u64 a3_0) ∧ w32.cell? ⟨gb233, 1, none⟩ = some (.int .u64 a3_1) ∧ w32.cell? ⟨gb241, 0, none⟩ = some (.int .u64 t237) ∧ w32.cell? ⟨gb241, 1, none⟩ = some (.int .u64 t238) ∧ w32.cell? ⟨gb242, 0, none⟩ = some (.int .u64 t239) ∧ w32.cell? ⟨gb242, 1, none⟩ = some (.int .u64 t240) := hS_
             refine norm_ (a' := ?_) ?_ ?_
             rotate_left
             ·
              simp only [putAll, Act.put, List.setIfInBounds_toArray, List.set_cons_zero, List.set_cons_succ]
              rfl
             refine two_ (i := 4) (j := 11) (Ni := some 31) (Nj := some 16) backreachlaw11_SpanGrows.M31 backreachlaw11_SpanGrows.M21 rfl rfl rfl rfl (two_of HT_.out (by kernel_rfl)) (by decide) (by decide) (fun K hK => ?_) (fun K hK => ?_)
             ·
              skip
              refine goes_ Try.func10 (by kernel_rfl) rfl #[.int .i64 a0, .int .i64 a1, .agg #[.int .u64 a2_0, .int .u64 a2_1], .agg #[.int .u64 a3_0, .int .u64 a3_1]] (by rfl) rfl rfl (by (try simp only [List.map_toArray, List.map_cons, List.map_nil]); first | done | rfl | (simp only [List.length_drop, List.length_take]; rfl)) ?_
              with_reducible refine (span_Apply.calls k a0 a1 a2_0 a2_1 a3_0 a3_1 t243 t244 _ A11.out).mono ?_
              rintro e w33 ⟨rfl, hb⟩
              refine ⟨_, rfl, ?_⟩
              have n0_ := Aside0.mk (bbq BK232 hb)
              have n1_ := Aside0.mk (bbq BK233 hb)
              have n2_ := Aside0.mk (bbq BK234 hb)
              have n3_ := Aside0.mk (bbq BK235 hb)
              have n4_ := Aside0.mk (bbq BK241 hb)
              have n5_ := Aside0.mk (bbq BK242 hb)
              have n6_ := Aside0.mk (bbq BK247 hb)
              have n7_ := Aside0.mk (below_step (hbq HB) hb)
              clear BK232 BK233 BK234 BK235 BK241 BK242 BK247 HB
              have BK232 := n0_
              have BK233 := n1_
              have BK234 := n2_
              have BK235 := n3_
              have BK241 := n4_
              have BK242 := n5_
              have BK247 := n6_
              have HB := n7_
              clear n0_ n1_ n2_ n3_ n4_ n5_ n6_ n7_
              (try clear hb)
              (try clear hb2)
              (try clear hk)
              (try clear hi)
              refine hK.out _ _ ⟨(blk_cell BK232.out 0).trans rfl, (blk_cell BK232.out 1).trans rfl, (blk_cell BK233.out 0).trans rfl, (blk_cell BK233.out 1).trans rfl, (blk_cell BK241.out 0).trans rfl, (blk_cell BK241.out 1).trans rfl, (blk_cell BK242.out 0).trans rfl, (blk_cell BK242.out 1).trans rfl⟩ (fun hHeld => ?_)
              clear hK K
              refine norm_ (a' := ?_) ?_ ?_
              rotate_left
              ·
               show Act.put _ (some 31) _ = _
               simp only [Act.put, List.setIfInBounds_toArray, List.set_cons_zero, List.set_cons_succ, i64_w, i32_w]
               rfl
              exact nq_ (hJ4_10 (gb247) _ ⟨hHeld, (bkq BK232), (bkq BK233), (bkq BK234), (bkq BK235), (bkq BK241), (bkq BK242), (bkq BK247), GW247.out, GE247.out, NB232_247.out, NB247_232.out, NB233_247.out, NB247_233.out, NB234_247.out, NB247_234.out, NB235_247.out, NB247_235.out, NB241_247.out, NB247_241.out, NB242_247.out, NB247_242.out, (hbq HB)⟩)
             ·
              skip
              refine box_step ?hg (N := 16) ?hd (cs := #[.int .u64 0, .int .u64 0]) (t := 24) ?hr ?_; (case hd => rfl); (case hg => rfl); (case hr => first | (go_simp; done) | (go_simp; rfl))
              intro gb248 hg w33 hbox hb
              have n0_ := Aside0.mk (bbq BK232 hb)
              have n1_ := Aside0.mk (bbq BK233 hb)
              have n2_ := Aside0.mk (bbq BK234 hb)
              have n3_ := Aside0.mk (bbq BK235 hb)
              have n4_ := Aside0.mk (bbq BK241 hb)
              have n5_ := Aside0.mk (bbq BK242 hb)
              have n6_ := Aside0.mk (bbq BK247 hb)
              have n7_ := Aside0.mk (below_step (hbq HB) hb)
              have n8_ := Aside0.mk (hbox)
              have n9_ := Aside0.mk ((bsq hg HB : w.heap.size ≤ gb248))
              have n10_ := Aside0.mk ((bsq hg HB : w.heap.size ≤ gb248))
              have n11_ := Aside0.mk ((nlq hg BK232 : gb232 ≠ gb248))
              have n12_ := Aside0.mk ((ngq hg BK232 : gb248 ≠ gb232))
              have n13_ := Aside0.mk ((nlq hg BK233 : gb233 ≠ gb248))
              have n14_ := Aside0.mk ((ngq hg BK233 : gb248 ≠ gb233))
              have n15_ := Aside0.mk ((nlq hg BK234 : gb234 ≠ gb248))
              have n16_ := Aside0.mk ((ngq hg BK234 : gb248 ≠ gb234))
              have n17_ := Aside0.mk ((nlq hg BK235 : gb235 ≠ gb248))
              have n18_ := Aside0.mk ((ngq hg BK235 : gb248 ≠ gb235))
              have n19_ := Aside0.mk ((nlq hg BK241 : gb241 ≠ gb248))
              have n20_ := Aside0.mk ((ngq hg BK241 : gb248 ≠ gb241))
              have n21_ := Aside0.mk ((nlq hg BK242 : gb242 ≠ gb248))
              have n22_ := Aside0.mk ((ngq hg BK242 : gb248 ≠ gb242))
              have n23_ := Aside0.mk ((nlq hg BK247 : gb247 ≠ gb248))
              have n24_ := Aside0.mk ((ngq hg BK247 : gb248 ≠ gb247))
              clear BK232 BK233 BK234 BK235 BK241 BK242 BK247 HB
              have BK232 := n0_
              have BK233 := n1_
              have BK234 := n2_
              have BK235 := n3_
              have BK241 := n4_
              have BK242 := n5_
              have BK247 := n6_
              have HB := n7_
              have BK248 := n8_
              have GW248 := n9_
              have GE248 := n10_
              have NB232_248 := n11_
              have NB248_232 := n12_
              have NB233_248 := n13_
              have NB248_233 := n14_
              have NB234_248 := n15_
              have NB248_234 := n16_
              have NB235_248 := n17_
              have NB248_235 := n18_
              have NB241_248 := n19_
              have NB248_241 := n20_
              have NB242_248 := n21_
              have NB248_242 := n22_
              have NB247_248 := n23_
              have NB248_247 := n24_
              clear n0_ n1_ n2_ n3_ n4_ n5_ n6_ n7_ n8_ n9_ n10_ n11_ n12_ n13_ n14_ n15_ n16_ n17_ n18_ n19_ n20_ n21_ n22_ n23_ n24_ hb hbox hg
              refine hK.out _ _ ⟨(blk_cell BK232.out 0).trans rfl, (blk_cell BK232.out 1).trans rfl, (blk_cell BK233.out 0).trans rfl, (blk_cell BK233.out 1).trans rfl, (blk_cell BK241.out 0).trans rfl, (blk_cell BK241.out 1).trans rfl, (blk_cell BK242.out 0).trans rfl, (blk_cell BK242.out 1).trans rfl⟩ (fun hHeld => ?_)
              clear hK K
              refine norm_ (a' := ?_) ?_ ?_
              rotate_left
              ·
               show Act.put _ (some 16) _ = _
               simp only [Act.put, List.setIfInBounds_toArray, List.set_cons_zero, List.set_cons_succ, i64_w, i32_w]
               rfl
              exact nq_ (hJ10_11 (gb247, gb248) _ ⟨hHeld, (bkq BK232), (bkq BK233), (bkq BK234), (bkq BK235), (bkq BK241), (bkq BK242), (bkq BK247), (bkq BK248), GW247.out, GE247.out, NB232_247.out, NB247_232.out, NB233_247.out, NB247_233.out, NB234_247.out, NB247_234.out, NB235_247.out, NB247_235.out, NB241_247.out, NB247_241.out, NB242_247.out, NB247_242.out, NB248_247.out, NB247_248.out, GW248.out, GE248.out, NB232_248.out, NB248_232.out, NB233_248.out, NB248_233.out, NB234_248.out, NB248_234.out, NB235_248.out, NB248_235.out, NB241_248.out, NB248_241.out, NB242_248.out, NB248_242.out, (hbq HB)⟩)
           ·
            skip
            rintro _ w32 ⟨hS_, h0_, h1_, h2_, h3_, h4_, h5_, h6_⟩
            have n0_ : Aside0 (w32.heap[gb232]? = some (.cells #[.int .u64 a2_0, .int .u64 a2_1] 24 (0, 0))) := ⟨h0_⟩
            have n1_ : Aside0 (w32.heap[gb233]? = some (.cells #[.int .u64 a3_0, .int .u64 a3_1] 24 (0, 0))) := ⟨h1_⟩
            have n2_ : Aside0 (w32.heap[gb234]? = some (.cells #[.int .u64 a4_0, .int .u64 a4_1] 24 (0, 0))) := ⟨h2_⟩
            have n3_ : Aside0 (w32.heap[gb235]? = some (.cells #[.int .u64 a5_0, .int .u64 a5_1] 24 (0, 0))) := ⟨h3_⟩
            have n4_ : Aside0 (w32.heap[gb241]? = some (.cells #[.int .u64 t237, .int .u64 t238] 24 (0, 0))) := ⟨h4_⟩
            have n5_ : Aside0 (w32.heap[gb242]? = some (.cells #[.int .u64 t239, .int .u64 t240] 24 (0, 0))) := ⟨h5_⟩
            have n6_ : Aside0 (Below w.heap.size w w32) := ⟨h6_⟩
            clear BK232 BK233 BK234 BK235 BK241 BK242 HB h0_ h1_ h2_ h3_ h4_ h5_ h6_
            have BK232 := n0_
            have BK233 := n1_
            have BK234 := n2_
            have BK235 := n3_
            have BK241 := n4_
            have BK242 := n5_
            have HB := n6_
            clear n0_ n1_ n2_ n3_ n4_ n5_ n6_
            have hHeld : w32.cell? ⟨gb232, 0, none⟩ = some (.int .u64 a2_0) ∧ w32.cell? ⟨gb232, 1, none⟩ = some (.int .u64 a2_1) ∧ w32.cell? ⟨gb233, 0, none⟩ = some (.int .u64 a3_0) ∧ w32.cell? ⟨gb233, 1, none⟩ = some (.int .u64 a3_1) ∧ w32.cell? ⟨gb241, 0, none⟩ = some (.int .u64 t237) ∧ w32.cell? ⟨gb241, 1, none⟩ = some (.int .u64 t238) ∧ w32.cell? ⟨gb242, 0, none⟩ = some (.int .u64 t239) ∧ w32.cell? ⟨gb242, 1, none⟩ = some (.int .u64 t240) := hS_
            refine norm_ (a' := ?_) ?_ ?_
            rotate_left
            ·
             simp only [putAll, Act.put, List.setIfInBounds_toArray, List.set_cons_zero, List.set_cons_succ]
             rfl
            refine three_ (i := 9) (j := 10) (k := 11) (Ni := some 36) (Nj := some 15) (Nk := some 16) backreachlaw11_SpanGrows.M33 backreachlaw11_SpanGrows.M31 backreachlaw11_SpanGrows.M30 rfl rfl rfl rfl rfl rfl (three_of HT_.out (by kernel_rfl)) (by decide) (by decide) (by decide) (fun K hK => ?_) (fun K hK => ?_) (fun K hK => ?_)
            ·
             skip
             refine goes_ Try.func10 (by kernel_rfl) rfl #[.int .i64 a0, .int .i64 a1, .agg #[.int .u64 t237, .int .u64 t238], .agg #[.int .u64 t239, .int .u64 t240]] (by rfl) rfl rfl (by (try simp only [List.map_toArray, List.map_cons, List.map_nil]); first | done | rfl | (simp only [List.length_drop, List.length_take]; rfl)) ?_
             with_reducible refine (span_Apply.calls k a0 a1 t237 t238 t239 t240 t245 t246 _ A12.out).mono ?_
             rintro e w33 ⟨rfl, hb⟩
             refine ⟨_, rfl, ?_⟩
             have n0_ := Aside0.mk (bbq BK232 hb)
             have n1_ := Aside0.mk (bbq BK233 hb)
             have n2_ := Aside0.mk (bbq BK234 hb)
             have n3_ := Aside0.mk (bbq BK235 hb)
             have n4_ := Aside0.mk (bbq BK241 hb)
             have n5_ := Aside0.mk (bbq BK242 hb)
             have n6_ := Aside0.mk (below_step (hbq HB) hb)
             clear BK232 BK233 BK234 BK235 BK241 BK242 HB
             have BK232 := n0_
             have BK233 := n1_
             have BK234 := n2_
             have BK235 := n3_
             have BK241 := n4_
             have BK242 := n5_
             have HB := n6_
             clear n0_ n1_ n2_ n3_ n4_ n5_ n6_
             (try clear hb)
             (try clear hb2)
             (try clear hk)
             (try clear hi)
             refine hK.out _ _ ⟨(blk_cell BK232.out 0).trans rfl, (blk_cell BK232.out 1).trans rfl, (blk_cell BK233.out 0).trans rfl, (blk_cell BK233.out 1).trans rfl, (blk_cell BK241.out 0).trans rfl, (blk_cell BK241.out 1).trans rfl, (blk_cell BK242.out 0).trans rfl, (blk_cell BK242.out 1).trans rfl⟩ (fun hHeld => ?_)
             clear hK K
             refine norm_ (a' := ?_) ?_ ?_
             rotate_left
             ·
              show Act.put _ (some 36) _ = _
              simp only [Act.put, List.setIfInBounds_toArray, List.set_cons_zero, List.set_cons_succ, i64_w, i32_w]
              rfl
             exact nq_ (hJ4_9 () _ ⟨hHeld, (bkq BK232), (bkq BK233), (bkq BK234), (bkq BK235), (bkq BK241), (bkq BK242), (hbq HB)⟩)
            ·
             skip
             refine box_step ?hg (N := 15) ?hd (cs := #[.int .u64 0, .int .u64 0]) (t := 24) ?hr ?_; (case hd => rfl); (case hg => rfl); (case hr => first | (go_simp; done) | (go_simp; rfl))
             intro gb247 hg w33 hbox hb
             have n0_ := Aside0.mk (bbq BK232 hb)
             have n1_ := Aside0.mk (bbq BK233 hb)
             have n2_ := Aside0.mk (bbq BK234 hb)
             have n3_ := Aside0.mk (bbq BK235 hb)
             have n4_ := Aside0.mk (bbq BK241 hb)
             have n5_ := Aside0.mk (bbq BK242 hb)
             have n6_ := Aside0.mk (below_step (hbq HB) hb)
             have n7_ := Aside0.mk (hbox)
             have n8_ := Aside0.mk ((bsq hg HB : w.heap.size ≤ gb247))
             have n9_ := Aside0.mk ((bsq hg HB : w.heap.size ≤ gb247))
             have n10_ := Aside0.mk ((nlq hg BK232 : gb232 ≠ gb247))
             have n11_ := Aside0.mk ((ngq hg BK232 : gb247 ≠ gb232))
             have n12_ := Aside0.mk ((nlq hg BK233 : gb233 ≠ gb247))
             have n13_ := Aside0.mk ((ngq hg BK233 : gb247 ≠ gb233))
             have n14_ := Aside0.mk ((nlq hg BK234 : gb234 ≠ gb247))
             have n15_ := Aside0.mk ((ngq hg BK234 : gb247 ≠ gb234))
             have n16_ := Aside0.mk ((nlq hg BK235 : gb235 ≠ gb247))
             have n17_ := Aside0.mk ((ngq hg BK235 : gb247 ≠ gb235))
             have n18_ := Aside0.mk ((nlq hg BK241 : gb241 ≠ gb247))
             have n19_ := Aside0.mk ((ngq hg BK241 : gb247 ≠ gb241))
             have n20_ := Aside0.mk ((nlq hg BK242 : gb242 ≠ gb247))
             have n21_ := Aside0.mk ((ngq hg BK242 : gb247 ≠ gb242))
             clear BK232 BK233 BK234 BK235 BK241 BK242 HB
             have BK232 := n0_
             have BK233 := n1_
             have BK234 := n2_
             have BK235 := n3_
             have BK241 := n4_
             have BK242 := n5_
             have HB := n6_
             have BK247 := n7_
             have GW247 := n8_
             have GE247 := n9_
             have NB232_247 := n10_
             have NB247_232 := n11_
             have NB233_247 := n12_
             have NB247_233 := n13_
             have NB234_247 := n14_
             have NB247_234 := n15_
             have NB235_247 := n16_
             have NB247_235 := n17_
             have NB241_247 := n18_
             have NB247_241 := n19_
             have NB242_247 := n20_
             have NB247_242 := n21_
             clear n0_ n1_ n2_ n3_ n4_ n5_ n6_ n7_ n8_ n9_ n10_ n11_ n12_ n13_ n14_ n15_ n16_ n17_ n18_ n19_ n20_ n21_ hb hbox hg
             refine hK.out _ _ ⟨(blk_cell BK232.out 0).trans rfl, (blk_cell BK232.out 1).trans rfl, (blk_cell BK233.out 0).trans rfl, (blk_cell BK233.out 1).trans rfl, (blk_cell BK241.out 0).trans rfl, (blk_cell BK241.out 1).trans rfl, (blk_cell BK242.out 0).trans rfl, (blk_cell BK242.out 1).trans rfl⟩ (fun hHeld => ?_)
             clear hK K
             refine norm_ (a' := ?_) ?_ ?_
             rotate_left
             ·
              show Act.put _ (some 15) _ = _
              simp only [Act.put, List.setIfInBounds_toArray, List.set_cons_zero, List.set_cons_succ, i64_w, i32_w]
              rfl
             exact nq_ (hJ4_10 (gb247) _ ⟨hHeld, (bkq BK232), (bkq BK233), (bkq BK234), (bkq BK235), (bkq BK241), (bkq BK242), (bkq BK247), GW247.out, GE247.out, NB232_247.out, NB247_232.out, NB233_247.out, NB247_233.out, NB234_247.out, NB247_234.out, NB235_247.out, NB247_235.out, NB241_247.out, NB247_241.out, NB242_247.out, NB247_242.out, (hbq HB)⟩)
            ·
             skip
             refine box_step ?hg (N := 16) ?hd (cs := #[.int .u64 0, .int .u64 0]) (t := 24) ?hr ?_; (case hd => rfl); (case hg => rfl); (case hr => first | (go_simp; done) | (go_simp; rfl))
             intro gb248 hg w33 hbox hb
             have n0_ := Aside0.mk (bbq BK232 hb)
             have n1_ := Aside0.mk (bbq BK233 hb)
             have n2_ := Aside0.mk (bbq BK234 hb)
             have n3_ := Aside0.mk (bbq BK235 hb)
             have n4_ := Aside0.mk (bbq BK241 hb)
             have n5_ := Aside0.mk (bbq BK242 hb)
             have n6_ := Aside0.mk (below_step (hbq HB) hb)
             have n7_ := Aside0.mk (hbox)
             have n8_ := Aside0.mk ((bsq hg HB : w.heap.size ≤ gb248))
             have n9_ := Aside0.mk ((bsq hg HB : w.heap.size ≤ gb248))
             have n10_ := Aside0.mk ((nlq hg BK232 : gb232 ≠ gb248))
             have n11_ := Aside0.mk ((ngq hg BK232 : gb248 ≠ gb232))
             have n12_ := Aside0.mk ((nlq hg BK233 : gb233 ≠ gb248))
             have n13_ := Aside0.mk ((ngq hg BK233 : gb248 ≠ gb233))
             have n14_ := Aside0.mk ((nlq hg BK234 : gb234 ≠ gb248))
             have n15_ := Aside0.mk ((ngq hg BK234 : gb248 ≠ gb234))
             have n16_ := Aside0.mk ((nlq hg BK235 : gb235 ≠ gb248))
             have n17_ := Aside0.mk ((ngq hg BK235 : gb248 ≠ gb235))
             have n18_ := Aside0.mk ((nlq hg BK241 : gb241 ≠ gb248))
             have n19_ := Aside0.mk ((ngq hg BK241 : gb248 ≠ gb241))
             have n20_ := Aside0.mk ((nlq hg BK242 : gb242 ≠ gb248))
             have n21_ := Aside0.mk ((ngq hg BK242 : gb248 ≠ gb242))
             clear BK232 BK233 BK234 BK235 BK241 BK242 HB
             have BK232 := n0_
             have BK233 := n1_
             have BK234 := n2_
             have BK235 := n3_
             have BK241 := n4_
             have BK242 := n5_
             have HB := n6_
             have BK248 := n7_
             have GW248 := n8_
             have GE248 := n9_
             have NB232_248 := n10_
             have NB248_232 := n11_
             have NB233_248 := n12_
             have NB248_233 := n13_
             have NB234_248 := n14_
             have NB248_234 := n15_
             have NB235_248 := n16_
             have NB248_235 := n17_
             have NB241_248 := n18_
             have NB248_241 := n19_
             have NB242_248 := n20_
             have NB248_242 := n21_
             clear n0_ n1_ n2_ n3_ n4_ n5_ n6_ n7_ n8_ n9_ n10_ n11_ n12_ n13_ n14_ n15_ n16_ n17_ n18_ n19_ n20_ n21_ hb hbox hg
             refine hK.out _ _ ⟨(blk_cell BK232.out 0).trans rfl, (blk_cell BK232.out 1).trans rfl, (blk_cell BK233.out 0).trans rfl, (blk_cell BK233.out 1).trans rfl, (blk_cell BK241.out 0).trans rfl, (blk_cell BK241.out 1).trans rfl, (blk_cell BK242.out 0).trans rfl, (blk_cell BK242.out 1).trans rfl⟩ (fun hHeld => ?_)
             clear hK K
             refine norm_ (a' := ?_) ?_ ?_
             rotate_left
             ·
              show Act.put _ (some 16) _ = _
              simp only [Act.put, List.setIfInBounds_toArray, List.set_cons_zero, List.set_cons_succ, i64_w, i32_w]
              rfl
             exact nq_ (hJ4_11 (gb248) _ ⟨hHeld, (bkq BK232), (bkq BK233), (bkq BK234), (bkq BK235), (bkq BK241), (bkq BK242), (bkq BK248), GW248.out, GE248.out, NB232_248.out, NB248_232.out, NB233_248.out, NB248_233.out, NB234_248.out, NB248_234.out, NB235_248.out, NB248_235.out, NB241_248.out, NB248_241.out, NB242_248.out, NB248_242.out, (hbq HB)⟩)
          ·
           skip
           rintro ⟨gb247, gb248⟩ w33 ⟨hS_, h0_, h1_, h2_, h3_, h4_, h5_, h6_, h7_, h8_, h9_, h10_, h11_, h12_, h13_, h14_, h15_, h16_, h17_, h18_, h19_, h20_, h21_, h22_, h23_, h24_, h25_, h26_, h27_, h28_, h29_, h30_, h31_, h32_, h33_, h34_, h35_, h36_, h37_, h38_⟩
           have n0_ : Aside0 (w33.heap[gb232]? = some (.cells #[.int .u64 a2_0, .int .u64 a2_1] 24 (0, 0))) := ⟨h0_⟩
           have n1_ : Aside0 (w33.heap[gb233]? = some (.cells #[.int .u64 a3_0, .int .u64 a3_1] 24 (0, 0))) := ⟨h1_⟩
           have n2_ : Aside0 (w33.heap[gb234]? = some (.cells #[.int .u64 a4_0, .int .u64 a4_1] 24 (0, 0))) := ⟨h2_⟩
           have n3_ : Aside0 (w33.heap[gb235]? = some (.cells #[.int .u64 a5_0, .int .u64 a5_1] 24 (0, 0))) := ⟨h3_⟩
           have n4_ : Aside0 (w33.heap[gb241]? = some (.cells #[.int .u64 t237, .int .u64 t238] 24 (0, 0))) := ⟨h4_⟩
           have n5_ : Aside0 (w33.heap[gb242]? = some (.cells #[.int .u64 t239, .int .u64 t240] 24 (0, 0))) := ⟨h5_⟩
           have n6_ : Aside0 (w33.heap[gb247]? = some (.cells #[.int .u64 0, .int .u64 0] 24 (0, 0))) := ⟨h6_⟩
           have n7_ : Aside0 (w33.heap[gb248]? = some (.cells #[.int .u64 0, .int .u64 0] 24 (0, 0))) := ⟨h7_⟩
           have n8_ : Aside0 (w.heap.size ≤ gb247) := ⟨h8_⟩
           have n9_ : Aside0 (w.heap.size ≤ gb247) := ⟨h9_⟩
           have n10_ : Aside0 (gb232 ≠ gb247) := ⟨h10_⟩
           have n11_ : Aside0 (gb247 ≠ gb232) := ⟨h11_⟩
           have n12_ : Aside0 (gb233 ≠ gb247) := ⟨h12_⟩
           have n13_ : Aside0 (gb247 ≠ gb233) := ⟨h13_⟩
           have n14_ : Aside0 (gb234 ≠ gb247) := ⟨h14_⟩
           have n15_ : Aside0 (gb247 ≠ gb234) := ⟨h15_⟩
           have n16_ : Aside0 (gb235 ≠ gb247) := ⟨h16_⟩
           have n17_ : Aside0 (gb247 ≠ gb235) := ⟨h17_⟩
           have n18_ : Aside0 (gb241 ≠ gb247) := ⟨h18_⟩
           have n19_ : Aside0 (gb247 ≠ gb241) := ⟨h19_⟩
           have n20_ : Aside0 (gb242 ≠ gb247) := ⟨h20_⟩
           have n21_ : Aside0 (gb247 ≠ gb242) := ⟨h21_⟩
           have n22_ : Aside0 (gb248 ≠ gb247) := ⟨h22_⟩
           have n23_ : Aside0 (gb247 ≠ gb248) := ⟨h23_⟩
           have n24_ : Aside0 (w.heap.size ≤ gb248) := ⟨h24_⟩
           have n25_ : Aside0 (w.heap.size ≤ gb248) := ⟨h25_⟩
           have n26_ : Aside0 (gb232 ≠ gb248) := ⟨h26_⟩
           have n27_ : Aside0 (gb248 ≠ gb232) := ⟨h27_⟩
           have n28_ : Aside0 (gb233 ≠ gb248) := ⟨h28_⟩
           have n29_ : Aside0 (gb248 ≠ gb233) := ⟨h29_⟩
           have n30_ : Aside0 (gb234 ≠ gb248) := ⟨h30_⟩
           have n31_ : Aside0 (gb248 ≠ gb234) := ⟨h31_⟩
           have n32_ : Aside0 (gb235 ≠ gb248) := ⟨h32_⟩
           have n33_ : Aside0 (gb248 ≠ gb235) := ⟨h33_⟩
           have n34_ : Aside0 (gb241 ≠ gb248) := ⟨h34_⟩
           have n35_ : Aside0 (gb248 ≠ gb241) := ⟨h35_⟩
           have n36_ : Aside0 (gb242 ≠ gb248) := ⟨h36_⟩
           have n37_ : Aside0 (gb248 ≠ gb242) := ⟨h37_⟩
           have n38_ : Aside0 (Below w.heap.size w w33) := ⟨h38_⟩
           clear BK232 BK233 BK234 BK235 BK241 BK242 HB h0_ h1_ h2_ h3_ h4_ h5_ h6_ h7_ h8_ h9_ h10_ h11_ h12_ h13_ h14_ h15_ h16_ h17_ h18_ h19_ h20_ h21_ h22_ h23_ h24_ h25_ h26_ h27_ h28_ h29_ h30_ h31_ h32_ h33_ h34_ h35_ h36_ h37_ h38_
           have BK232 := n0_
           have BK233 := n1_
           have BK234 := n2_
           have BK235 := n3_
           have BK241 := n4_
           have BK242 := n5_
           have BK247 := n6_
           have BK248 := n7_
           have GW247 := n8_
           have GE247 := n9_
           have NB232_247 := n10_
           have NB247_232 := n11_
           have NB233_247 := n12_
           have NB247_233 := n13_
           have NB234_247 := n14_
           have NB247_234 := n15_
           have NB235_247 := n16_
           have NB247_235 := n17_
           have NB241_247 := n18_
           have NB247_241 := n19_
           have NB242_247 := n20_
           have NB247_242 := n21_
           have NB248_247 := n22_
           have NB247_248 := n23_
           have GW248 := n24_
           have GE248 := n25_
           have NB232_248 := n26_
           have NB248_232 := n27_
           have NB233_248 := n28_
           have NB248_233 := n29_
           have NB234_248 := n30_
           have NB248_234 := n31_
           have NB235_248 := n32_
           have NB248_235 := n33_
           have NB241_248 := n34_
           have NB248_241 := n35_
           have NB242_248 := n36_
           have NB248_242 := n37_
           have HB := n38_
           clear n0_ n1_ n2_ n3_ n4_ n5_ n6_ n7_ n8_ n9_ n10_ n11_ n12_ n13_ n14_ n15_ n16_ n17_ n18_ n19_ n20_ n21_ n22_ n23_ n24_ n25_ n26_ n27_ n28_ n29_ n30_ n31_ n32_ n33_ n34_ n35_ n36_ n37_ n38_
           have hHeld : w33.cell? ⟨gb232, 0, none⟩ = some (.int .u64 a2_0) ∧ w33.cell? ⟨gb232, 1, none⟩ = some (.int .u64 a2_1) ∧ w33.cell? ⟨gb233, 0, none⟩ = some (.int .u64 a3_0) ∧ w33.cell? ⟨gb233, 1, none⟩ = some (.int .u64 a3_1) ∧ w33.cell? ⟨gb241, 0, none⟩ = some (.int .u64 t237) ∧ w33.cell? ⟨gb241, 1, none⟩ = some (.int .u64 t238) ∧ w33.cell? ⟨gb242, 0, none⟩ = some (.int .u64 t239) ∧ w33.cell? ⟨gb242, 1, none⟩ = some (.int .u64 t240) := hS_
           refine norm_ (a' := ?_) ?_ ?_
           rotate_left
           ·
            simp only [putAll, Act.put, List.setIfInBounds_toArray, List.set_cons_zero, List.set_cons_succ]
            rfl
           refine one_ (i := 4) (N := some 31) backreachlaw11_SpanGrows.M32 rfl rfl (one_of HT_.out (by kernel_rfl)) (by decide) (fun K hK => ?_)
           refine goes_ Try.func10 (by kernel_rfl) rfl #[.int .i64 a0, .int .i64 a1, .agg #[.int .u64 a2_0, .int .u64 a2_1], .agg #[.int .u64 a3_0, .int .u64 a3_1]] (by rfl) rfl rfl (by (try simp only [List.map_toArray, List.map_cons, List.map_nil]); first | done | rfl | (simp only [List.length_drop, List.length_take]; rfl)) ?_
           with_reducible refine (span_Apply.calls k a0 a1 a2_0 a2_1 a3_0 a3_1 t243 t244 _ A11.out).mono ?_
           rintro e w34 ⟨rfl, hb⟩
           refine ⟨_, rfl, ?_⟩
           have n0_ := Aside0.mk (bbq BK232 hb)
           have n1_ := Aside0.mk (bbq BK233 hb)
           have n2_ := Aside0.mk (bbq BK234 hb)
           have n3_ := Aside0.mk (bbq BK235 hb)
           have n4_ := Aside0.mk (bbq BK241 hb)
           have n5_ := Aside0.mk (bbq BK242 hb)
           have n6_ := Aside0.mk (bbq BK247 hb)
           have n7_ := Aside0.mk (bbq BK248 hb)
           have n8_ := Aside0.mk (below_step (hbq HB) hb)
           clear BK232 BK233 BK234 BK235 BK241 BK242 BK247 BK248 HB
           have BK232 := n0_
           have BK233 := n1_
           have BK234 := n2_
           have BK235 := n3_
           have BK241 := n4_
           have BK242 := n5_
           have BK247 := n6_
           have BK248 := n7_
           have HB := n8_
           clear n0_ n1_ n2_ n3_ n4_ n5_ n6_ n7_ n8_
           (try clear hb)
           (try clear hb2)
           (try clear hk)
           (try clear hi)
           refine hK.out _ _ ⟨(blk_cell BK232.out 0).trans rfl, (blk_cell BK232.out 1).trans rfl, (blk_cell BK233.out 0).trans rfl, (blk_cell BK233.out 1).trans rfl, (blk_cell BK241.out 0).trans rfl, (blk_cell BK241.out 1).trans rfl, (blk_cell BK242.out 0).trans rfl, (blk_cell BK242.out 1).trans rfl⟩ (fun hHeld => ?_)
           clear hK K
           refine norm_ (a' := ?_) ?_ ?_
           rotate_left
           ·
            show Act.put _ (some 31) _ = _
            simp only [Act.put, List.setIfInBounds_toArray, List.set_cons_zero, List.set_cons_succ, i64_w, i32_w]
            rfl
           exact nq_ (hJ4_10_11 (gb247, gb248) _ ⟨hHeld, (bkq BK232), (bkq BK233), (bkq BK234), (bkq BK235), (bkq BK241), (bkq BK242), (bkq BK247), (bkq BK248), GW247.out, GE247.out, NB232_247.out, NB247_232.out, NB233_247.out, NB247_233.out, NB234_247.out, NB247_234.out, NB235_247.out, NB247_235.out, NB241_247.out, NB247_241.out, NB242_247.out, NB247_242.out, NB248_247.out, NB247_248.out, GW248.out, GE248.out, NB232_248.out, NB248_232.out, NB233_248.out, NB248_233.out, NB234_248.out, NB248_234.out, NB235_248.out, NB248_235.out, NB241_248.out, NB248_241.out, NB242_248.out, NB248_242.out, (hbq HB)⟩)
         ·
          skip
          rintro gb248 w33 ⟨hS_, h0_, h1_, h2_, h3_, h4_, h5_, h6_, h7_, h8_, h9_, h10_, h11_, h12_, h13_, h14_, h15_, h16_, h17_, h18_, h19_, h20_, h21_⟩
          have n0_ : Aside0 (w33.heap[gb232]? = some (.cells #[.int .u64 a2_0, .int .u64 a2_1] 24 (0, 0))) := ⟨h0_⟩
          have n1_ : Aside0 (w33.heap[gb233]? = some (.cells #[.int .u64 a3_0, .int .u64 a3_1] 24 (0, 0))) := ⟨h1_⟩
          have n2_ : Aside0 (w33.heap[gb234]? = some (.cells #[.int .u64 a4_0, .int .u64 a4_1] 24 (0, 0))) := ⟨h2_⟩
          have n3_ : Aside0 (w33.heap[gb235]? = some (.cells #[.int .u64 a5_0, .int .u64 a5_1] 24 (0, 0))) := ⟨h3_⟩
          have n4_ : Aside0 (w33.heap[gb241]? = some (.cells #[.int .u64 t237, .int .u64 t238] 24 (0, 0))) := ⟨h4_⟩
          have n5_ : Aside0 (w33.heap[gb242]? = some (.cells #[.int .u64 t239, .int .u64 t240] 24 (0, 0))) := ⟨h5_⟩
          have n6_ : Aside0 (w33.heap[gb248]? = some (.cells #[.int .u64 0, .int .u64 0] 24 (0, 0))) := ⟨h6_⟩
          have n7_ : Aside0 (w.heap.size ≤ gb248) := ⟨h7_⟩
          have n8_ : Aside0 (w.heap.size ≤ gb248) := ⟨h8_⟩
          have n9_ : Aside0 (gb232 ≠ gb248) := ⟨h9_⟩
          have n10_ : Aside0 (gb248 ≠ gb232) := ⟨h10_⟩
          have n11_ : Aside0 (gb233 ≠ gb248) := ⟨h11_⟩
          have n12_ : Aside0 (gb248 ≠ gb233) := ⟨h12_⟩
          have n13_ : Aside0 (gb234 ≠ gb248) := ⟨h13_⟩
          have n14_ : Aside0 (gb248 ≠ gb234) := ⟨h14_⟩
          have n15_ : Aside0 (gb235 ≠ gb248) := ⟨h15_⟩
          have n16_ : Aside0 (gb248 ≠ gb235) := ⟨h16_⟩
          have n17_ : Aside0 (gb241 ≠ gb248) := ⟨h17_⟩
          have n18_ : Aside0 (gb248 ≠ gb241) := ⟨h18_⟩
          have n19_ : Aside0 (gb242 ≠ gb248) := ⟨h19_⟩
          have n20_ : Aside0 (gb248 ≠ gb242) := ⟨h20_⟩
          have n21_ : Aside0 (Below w.heap.size w w33) := ⟨h21_⟩
          clear BK232 BK233 BK234 BK235 BK241 BK242 HB h0_ h1_ h2_ h3_ h4_ h5_ h6_ h7_ h8_ h9_ h10_ h11_ h12_ h13_ h14_ h15_ h16_ h17_ h18_ h19_ h20_ h21_
          have BK232 := n0_
          have BK233 := n1_
          have BK234 := n2_
          have BK235 := n3_
          have BK241 := n4_
          have BK242 := n5_
          have BK248 := n6_
          have GW248 := n7_
          have GE248 := n8_
          have NB232_248 := n9_
          have NB248_232 := n10_
          have NB233_248 := n11_
          have NB248_233 := n12_
          have NB234_248 := n13_
          have NB248_234 := n14_
          have NB235_248 := n15_
          have NB248_235 := n16_
          have NB241_248 := n17_
          have NB248_241 := n18_
          have NB242_248 := n19_
          have NB248_242 := n20_
          have HB := n21_
          clear n0_ n1_ n2_ n3_ n4_ n5_ n6_ n7_ n8_ n9_ n10_ n11_ n12_ n13_ n14_ n15_ n16_ n17_ n18_ n19_ n20_ n21_
          have hHeld : w33.cell? ⟨gb232, 0, none⟩ = some (.int .u64 a2_0) ∧ w33.cell? ⟨gb232, 1, none⟩ = some (.int .u64 a2_1) ∧ w33.cell? ⟨gb233, 0, none⟩ = some (.int .u64 a3_0) ∧ w33.cell? ⟨gb233, 1, none⟩ = some (.int .u64 a3_1) ∧ w33.cell? ⟨gb241, 0, none⟩ = some (.int .u64 t237) ∧ w33.cell? ⟨gb241, 1, none⟩ = some (.int .u64 t238) ∧ w33.cell? ⟨gb242, 0, none⟩ = some (.int .u64 t239) ∧ w33.cell? ⟨gb242, 1, none⟩ = some (.int .u64 t240) := hS_
          refine norm_ (a' := ?_) ?_ ?_
          rotate_left
          ·
           simp only [putAll, Act.put, List.setIfInBounds_toArray, List.set_cons_zero, List.set_cons_succ]
           rfl
          refine two_ (i := 9) (j := 10) (Ni := some 36) (Nj := some 15) backreachlaw11_SpanGrows.M35 backreachlaw11_SpanGrows.M32 rfl rfl rfl rfl (two_of HT_.out (by kernel_rfl)) (by decide) (by decide) (fun K hK => ?_) (fun K hK => ?_)
          ·
           skip
           refine goes_ Try.func10 (by kernel_rfl) rfl #[.int .i64 a0, .int .i64 a1, .agg #[.int .u64 t237, .int .u64 t238], .agg #[.int .u64 t239, .int .u64 t240]] (by rfl) rfl rfl (by (try simp only [List.map_toArray, List.map_cons, List.map_nil]); first | done | rfl | (simp only [List.length_drop, List.length_take]; rfl)) ?_
           with_reducible refine (span_Apply.calls k a0 a1 t237 t238 t239 t240 t245 t246 _ A12.out).mono ?_
           rintro e w34 ⟨rfl, hb⟩
           refine ⟨_, rfl, ?_⟩
           have n0_ := Aside0.mk (bbq BK232 hb)
           have n1_ := Aside0.mk (bbq BK233 hb)
           have n2_ := Aside0.mk (bbq BK234 hb)
           have n3_ := Aside0.mk (bbq BK235 hb)
           have n4_ := Aside0.mk (bbq BK241 hb)
           have n5_ := Aside0.mk (bbq BK242 hb)
           have n6_ := Aside0.mk (bbq BK248 hb)
           have n7_ := Aside0.mk (below_step (hbq HB) hb)
           clear BK232 BK233 BK234 BK235 BK241 BK242 BK248 HB
           have BK232 := n0_
           have BK233 := n1_
           have BK234 := n2_
           have BK235 := n3_
           have BK241 := n4_
           have BK242 := n5_
           have BK248 := n6_
           have HB := n7_
           clear n0_ n1_ n2_ n3_ n4_ n5_ n6_ n7_
           (try clear hb)
           (try clear hb2)
           (try clear hk)
           (try clear hi)
           refine hK.out _ _ ⟨(blk_cell BK232.out 0).trans rfl, (blk_cell BK232.out 1).trans rfl, (blk_cell BK233.out 0).trans rfl, (blk_cell BK233.out 1).trans rfl, (blk_cell BK241.out 0).trans rfl, (blk_cell BK241.out 1).trans rfl, (blk_cell BK242.out 0).trans rfl, (blk_cell BK242.out 1).trans rfl⟩ (fun hHeld => ?_)
           clear hK K
           refine norm_ (a' := ?_) ?_ ?_
           rotate_left
           ·
            show Act.put _ (some 36) _ = _
            simp only [Act.put, List.setIfInBounds_toArray, List.set_cons_zero, List.set_cons_succ, i64_w, i32_w]
            rfl
           exact nq_ (hJ4_9_11 (gb248) _ ⟨hHeld, (bkq BK232), (bkq BK233), (bkq BK234), (bkq BK235), (bkq BK241), (bkq BK242), (bkq BK248), GW248.out, GE248.out, NB232_248.out, NB248_232.out, NB233_248.out, NB248_233.out, NB234_248.out, NB248_234.out, NB235_248.out, NB248_235.out, NB241_248.out, NB248_241.out, NB242_248.out, NB248_242.out, (hbq HB)⟩)
          ·
           skip
           refine box_step ?hg (N := 15) ?hd (cs := #[.int .u64 0, .int .u64 0]) (t := 24) ?hr ?_; (case hd => rfl); (case hg => rfl); (case hr => first | (go_simp; done) | (go_simp; rfl))
           intro gb247 hg w34 hbox hb
           have n0_ := Aside0.mk (bbq BK232 hb)
           have n1_ := Aside0.mk (bbq BK233 hb)
           have n2_ := Aside0.mk (bbq BK234 hb)
           have n3_ := Aside0.mk (bbq BK235 hb)
           have n4_ := Aside0.mk (bbq BK241 hb)
           have n5_ := Aside0.mk (bbq BK242 hb)
           have n6_ := Aside0.mk (bbq BK248 hb)
           have n7_ := Aside0.mk (below_step (hbq HB) hb)
           have n8_ := Aside0.mk (hbox)
           have n9_ := Aside0.mk ((bsq hg HB : w.heap.size ≤ gb247))
           have n10_ := Aside0.mk ((bsq hg HB : w.heap.size ≤ gb247))
           have n11_ := Aside0.mk ((nlq hg BK232 : gb232 ≠ gb247))
           have n12_ := Aside0.mk ((ngq hg BK232 : gb247 ≠ gb232))
           have n13_ := Aside0.mk ((nlq hg BK233 : gb233 ≠ gb247))
           have n14_ := Aside0.mk ((ngq hg BK233 : gb247 ≠ gb233))
           have n15_ := Aside0.mk ((nlq hg BK234 : gb234 ≠ gb247))
           have n16_ := Aside0.mk ((ngq hg BK234 : gb247 ≠ gb234))
           have n17_ := Aside0.mk ((nlq hg BK235 : gb235 ≠ gb247))
           have n18_ := Aside0.mk ((ngq hg BK235 : gb247 ≠ gb235))
           have n19_ := Aside0.mk ((nlq hg BK241 : gb241 ≠ gb247))
           have n20_ := Aside0.mk ((ngq hg BK241 : gb247 ≠ gb241))
           have n21_ := Aside0.mk ((nlq hg BK242 : gb242 ≠ gb247))
           have n22_ := Aside0.mk ((ngq hg BK242 : gb247 ≠ gb242))
           have n23_ := Aside0.mk ((nlq hg BK248 : gb248 ≠ gb247))
           have n24_ := Aside0.mk ((ngq hg BK248 : gb247 ≠ gb248))
           clear BK232 BK233 BK234 BK235 BK241 BK242 BK248 HB
           have BK232 := n0_
           have BK233 := n1_
           have BK234 := n2_
           have BK235 := n3_
           have BK241 := n4_
           have BK242 := n5_
           have BK248 := n6_
           have HB := n7_
           have BK247 := n8_
           have GW247 := n9_
           have GE247 := n10_
           have NB232_247 := n11_
           have NB247_232 := n12_
           have NB233_247 := n13_
           have NB247_233 := n14_
           have NB234_247 := n15_
           have NB247_234 := n16_
           have NB235_247 := n17_
           have NB247_235 := n18_
           have NB241_247 := n19_
           have NB247_241 := n20_
           have NB242_247 := n21_
           have NB247_242 := n22_
           have NB248_247 := n23_
           have NB247_248 := n24_
           clear n0_ n1_ n2_ n3_ n4_ n5_ n6_ n7_ n8_ n9_ n10_ n11_ n12_ n13_ n14_ n15_ n16_ n17_ n18_ n19_ n20_ n21_ n22_ n23_ n24_ hb hbox hg
           refine hK.out _ _ ⟨(blk_cell BK232.out 0).trans rfl, (blk_cell BK232.out 1).trans rfl, (blk_cell BK233.out 0).trans rfl, (blk_cell BK233.out 1).trans rfl, (blk_cell BK241.out 0).trans rfl, (blk_cell BK241.out 1).trans rfl, (blk_cell BK242.out 0).trans rfl, (blk_cell BK242.out 1).trans rfl⟩ (fun hHeld => ?_)
           clear hK K
           refine norm_ (a' := ?_) ?_ ?_
           rotate_left
           ·
            show Act.put _ (some 15) _ = _
            simp only [Act.put, List.setIfInBounds_toArray, List.set_cons_zero, List.set_cons_succ, i64_w, i32_w]
            rfl
           exact nq_ (hJ4_10_11 (gb247, gb248) _ ⟨hHeld, (bkq BK232), (bkq BK233), (bkq BK234), (bkq BK235), (bkq BK241), (bkq BK242), (bkq BK247), (bkq BK248), GW247.out, GE247.out, NB232_247.out, NB247_232.out, NB233_247.out, NB247_233.out, NB234_247.out, NB247_234.out, NB235_247.out, NB247_235.out, NB241_247.out, NB247_241.out, NB242_247.out, NB247_242.out, NB248_247.out, NB247_248.out, GW248.out, GE248.out, NB232_248.out, NB248_232.out, NB233_248.out, NB248_233.out, NB234_248.out, NB248_234.out, NB235_248.out, NB248_235.out, NB241_248.out, NB248_241.out, NB242_248.out, NB248_242.out, (hbq HB)⟩)
        ·
         skip
         rintro gb247 w33 ⟨hS_, h0_, h1_, h2_, h3_, h4_, h5_, h6_, h7_, h8_, h9_, h10_, h11_, h12_, h13_, h14_, h15_, h16_, h17_, h18_, h19_, h20_, h21_⟩
         have n0_ : Aside0 (w33.heap[gb232]? = some (.cells #[.int .u64 a2_0, .int .u64 a2_1] 24 (0, 0))) := ⟨h0_⟩
         have n1_ : Aside0 (w33.heap[gb233]? = some (.cells #[.int .u64 a3_0, .int .u64 a3_1] 24 (0, 0))) := ⟨h1_⟩
         have n2_ : Aside0 (w33.heap[gb234]? = some (.cells #[.int .u64 a4_0, .int .u64 a4_1] 24 (0, 0))) := ⟨h2_⟩
         have n3_ : Aside0 (w33.heap[gb235]? = some (.cells #[.int .u64 a5_0, .int .u64 a5_1] 24 (0, 0))) := ⟨h3_⟩
         have n4_ : Aside0 (w33.heap[gb241]? = some (.cells #[.int .u64 t237, .int .u64 t238] 24 (0, 0))) := ⟨h4_⟩
         have n5_ : Aside0 (w33.heap[gb242]? = some (.cells #[.int .u64 t239, .int .u64 t240] 24 (0, 0))) := ⟨h5_⟩
         have n6_ : Aside0 (w33.heap[gb247]? = some (.cells #[.int .u64 0, .int .u64 0] 24 (0, 0))) := ⟨h6_⟩
         have n7_ : Aside0 (w.heap.size ≤ gb247) := ⟨h7_⟩
         have n8_ : Aside0 (w.heap.size ≤ gb247) := ⟨h8_⟩
         have n9_ : Aside0 (gb232 ≠ gb247) := ⟨h9_⟩
         have n10_ : Aside0 (gb247 ≠ gb232) := ⟨h10_⟩
         have n11_ : Aside0 (gb233 ≠ gb247) := ⟨h11_⟩
         have n12_ : Aside0 (gb247 ≠ gb233) := ⟨h12_⟩
         have n13_ : Aside0 (gb234 ≠ gb247) := ⟨h13_⟩
         have n14_ : Aside0 (gb247 ≠ gb234) := ⟨h14_⟩
         have n15_ : Aside0 (gb235 ≠ gb247) := ⟨h15_⟩
         have n16_ : Aside0 (gb247 ≠ gb235) := ⟨h16_⟩
         have n17_ : Aside0 (gb241 ≠ gb247) := ⟨h17_⟩
         have n18_ : Aside0 (gb247 ≠ gb241) := ⟨h18_⟩
         have n19_ : Aside0 (gb242 ≠ gb247) := ⟨h19_⟩
         have n20_ : Aside0 (gb247 ≠ gb242) := ⟨h20_⟩
         have n21_ : Aside0 (Below w.heap.size w w33) := ⟨h21_⟩
         clear BK232 BK233 BK234 BK235 BK241 BK242 HB h0_ h1_ h2_ h3_ h4_ h5_ h6_ h7_ h8_ h9_ h10_ h11_ h12_ h13_ h14_ h15_ h16_ h17_ h18_ h19_ h20_ h21_
         have BK232 := n0_
         have BK233 := n1_
         have BK234 := n2_
         have BK235 := n3_
         have BK241 := n4_
         have BK242 := n5_
         have BK247 := n6_
         have GW247 := n7_
         have GE247 := n8_
         have NB232_247 := n9_
         have NB247_232 := n10_
         have NB233_247 := n11_
         have NB247_233 := n12_
         have NB234_247 := n13_
         have NB247_234 := n14_
         have NB235_247 := n15_
         have NB247_235 := n16_
         have NB241_247 := n17_
         have NB247_241 := n18_
         have NB242_247 := n19_
         have NB247_242 := n20_
         have HB := n21_
         clear n0_ n1_ n2_ n3_ n4_ n5_ n6_ n7_ n8_ n9_ n10_ n11_ n12_ n13_ n14_ n15_ n16_ n17_ n18_ n19_ n20_ n21_
         have hHeld : w33.cell? ⟨gb232, 0, none⟩ = some (.int .u64 a2_0) ∧ w33.cell? ⟨gb232, 1, none⟩ = some (.int .u64 a2_1) ∧ w33.cell? ⟨gb233, 0, none⟩ = some (.int .u64 a3_0) ∧ w33.cell? ⟨gb233, 1, none⟩ = some (.int .u64 a3_1) ∧ w33.cell? ⟨gb241, 0, none⟩ = some (.int .u64 t237) ∧ w33.cell? ⟨gb241, 1, none⟩ = some (.int .u64 t238) ∧ w33.cell? ⟨gb242, 0, none⟩ = some (.int .u64 t239) ∧ w33.cell? ⟨gb242, 1, none⟩ = some (.int .u64 t240) := hS_
         refine norm_ (a' := ?_) ?_ ?_
         rotate_left
         ·
          simp only [putAll, Act.put, List.setIfInBounds_toArray, List.set_cons_zero, List.set_cons_succ]
          rfl
         refine two_ (i := 9) (j := 11) (Ni := some 36) (Nj := some 16) backreachlaw11_SpanGrows.M36 backreachlaw11_SpanGrows.M32 rfl rfl rfl rfl (two_of HT_.out (by kernel_rfl)) (by decide) (by decide) (fun K hK => ?_) (fun K hK => ?_)
         ·
          skip
          refine goes_ Try.func10 (by kernel_rfl) rfl #[.int .i64 a0, .int .i64 a1, .agg #[.int .u64 t237, .int .u64 t238], .agg #[.int .u64 t239, .int .u64 t240]] (by rfl) rfl rfl (by (try simp only [List.map_toArray, List.map_cons, List.map_nil]); first | done | rfl | (simp only [List.length_drop, List.length_take]; rfl)) ?_
          with_reducible refine (span_Apply.calls k a0 a1 t237 t238 t239 t240 t245 t246 _ A12.out).mono ?_
          rintro e w34 ⟨rfl, hb⟩
          refine ⟨_, rfl, ?_⟩
          have n0_ := Aside0.mk (bbq BK232 hb)
          have n1_ := Aside0.mk (bbq BK233 hb)
          have n2_ := Aside0.mk (bbq BK234 hb)
          have n3_ := Aside0.mk (bbq BK235 hb)
          have n4_ := Aside0.mk (bbq BK241 hb)
          have n5_ := Aside0.mk (bbq BK242 hb)
          have n6_ := Aside0.mk (bbq BK247 hb)
          have n7_ := Aside0.mk (below_step (hbq HB) hb)
          clear BK232 BK233 BK234 BK235 BK241 BK242 BK247 HB
          have BK232 := n0_
          have BK233 := n1_
          have BK234 := n2_
          have BK235 := n3_
          have BK241 := n4_
          have BK242 := n5_
          have BK247 := n6_
          have HB := n7_
          clear n0_ n1_ n2_ n3_ n4_ n5_ n6_ n7_
          (try clear hb)
          (try clear hb2)
          (try clear hk)
          (try clear hi)
          refine hK.out _ _ ⟨(blk_cell BK232.out 0).trans rfl, (blk_cell BK232.out 1).trans rfl, (blk_cell BK233.out 0).trans rfl, (blk_cell BK233.out 1).trans rfl, (blk_cell BK241.out 0).trans rfl, (blk_cell BK241.out 1).trans rfl, (blk_cell BK242.out 0).trans rfl, (blk_cell BK242.out 1).trans rfl⟩ (fun hHeld => ?_)
          clear hK K
          refine norm_ (a' := ?_) ?_ ?_
          rotate_left
          ·
           show Act.put _ (some 36) _ = _
           simp only [Act.put, List.setIfInBounds_toArray, List.set_cons_zero, List.set_cons_succ, i64_w, i32_w]
           rfl
          exact nq_ (hJ4_9_10 (gb247) _ ⟨hHeld, (bkq BK232), (bkq BK233), (bkq BK234), (bkq BK235), (bkq BK241), (bkq BK242), (bkq BK247), GW247.out, GE247.out, NB232_247.out, NB247_232.out, NB233_247.out, NB247_233.out, NB234_247.out, NB247_234.out, NB235_247.out, NB247_235.out, NB241_247.out, NB247_241.out, NB242_247.out, NB247_242.out, (hbq HB)⟩)
         ·
          skip
          refine box_step ?hg (N := 16) ?hd (cs := #[.int .u64 0, .int .u64 0]) (t := 24) ?hr ?_; (case hd => rfl); (case hg => rfl); (case hr => first | (go_simp; done) | (go_simp; rfl))
          intro gb248 hg w34 hbox hb
          have n0_ := Aside0.mk (bbq BK232 hb)
          have n1_ := Aside0.mk (bbq BK233 hb)
          have n2_ := Aside0.mk (bbq BK234 hb)
          have n3_ := Aside0.mk (bbq BK235 hb)
          have n4_ := Aside0.mk (bbq BK241 hb)
          have n5_ := Aside0.mk (bbq BK242 hb)
          have n6_ := Aside0.mk (bbq BK247 hb)
          have n7_ := Aside0.mk (below_step (hbq HB) hb)
          have n8_ := Aside0.mk (hbox)
          have n9_ := Aside0.mk ((bsq hg HB : w.heap.size ≤ gb248))
          have n10_ := Aside0.mk ((bsq hg HB : w.heap.size ≤ gb248))
          have n11_ := Aside0.mk ((nlq hg BK232 : gb232 ≠ gb248))
          have n12_ := Aside0.mk ((ngq hg BK232 : gb248 ≠ gb232))
          have n13_ := Aside0.mk ((nlq hg BK233 : gb233 ≠ gb248))
          have n14_ := Aside0.mk ((ngq hg BK233 : gb248 ≠ gb233))
          have n15_ := Aside0.mk ((nlq hg BK234 : gb234 ≠ gb248))
          have n16_ := Aside0.mk ((ngq hg BK234 : gb248 ≠ gb234))
          have n17_ := Aside0.mk ((nlq hg BK235 : gb235 ≠ gb248))
          have n18_ := Aside0.mk ((ngq hg BK235 : gb248 ≠ gb235))
          have n19_ := Aside0.mk ((nlq hg BK241 : gb241 ≠ gb248))
          have n20_ := Aside0.mk ((ngq hg BK241 : gb248 ≠ gb241))
          have n21_ := Aside0.mk ((nlq hg BK242 : gb242 ≠ gb248))
          have n22_ := Aside0.mk ((ngq hg BK242 : gb248 ≠ gb242))
          have n23_ := Aside0.mk ((nlq hg BK247 : gb247 ≠ gb248))
          have n24_ := Aside0.mk ((ngq hg BK247 : gb248 ≠ gb247))
          clear BK232 BK233 BK234 BK235 BK241 BK242 BK247 HB
          have BK232 := n0_
          have BK233 := n1_
          have BK234 := n2_
          have BK235 := n3_
          have BK241 := n4_
          have BK242 := n5_
          have BK247 := n6_
          have HB := n7_
          have BK248 := n8_
          have GW248 := n9_
          have GE248 := n10_
          have NB232_248 := n11_
          have NB248_232 := n12_
          have NB233_248 := n13_
          have NB248_233 := n14_
          have NB234_248 := n15_
          have NB248_234 := n16_
          have NB235_248 := n17_
          have NB248_235 := n18_
          have NB241_248 := n19_
          have NB248_241 := n20_
          have NB242_248 := n21_
          have NB248_242 := n22_
          have NB247_248 := n23_
          have NB248_247 := n24_
          clear n0_ n1_ n2_ n3_ n4_ n5_ n6_ n7_ n8_ n9_ n10_ n11_ n12_ n13_ n14_ n15_ n16_ n17_ n18_ n19_ n20_ n21_ n22_ n23_ n24_ hb hbox hg
          refine hK.out _ _ ⟨(blk_cell BK232.out 0).trans rfl, (blk_cell BK232.out 1).trans rfl, (blk_cell BK233.out 0).trans rfl, (blk_cell BK233.out 1).trans rfl, (blk_cell BK241.out 0).trans rfl, (blk_cell BK241.out 1).trans rfl, (blk_cell BK242.out 0).trans rfl, (blk_cell BK242.out 1).trans rfl⟩ (fun hHeld => ?_)
          clear hK K
          refine norm_ (a' := ?_) ?_ ?_
          rotate_left
          ·
           show Act.put _ (some 16) _ = _
           simp only [Act.put, List.setIfInBounds_toArray, List.set_cons_zero, List.set_cons_succ, i64_w, i32_w]
           rfl
          exact nq_ (hJ4_10_11 (gb247, gb248) _ ⟨hHeld, (bkq BK232), (bkq BK233), (bkq BK234), (bkq BK235), (bkq BK241), (bkq BK242), (bkq BK247), (bkq BK248), GW247.out, GE247.out, NB232_247.out, NB247_232.out, NB233_247.out, NB247_233.out, NB234_247.out, NB247_234.out, NB235_247.out, NB247_235.out, NB241_247.out, NB247_241.out, NB242_247.out, NB247_242.out, NB248_247.out, NB247_248.out, GW248.out, GE248.out, NB232_248.out, NB248_232.out, NB233_248.out, NB248_233.out, NB234_248.out, NB248_234.out, NB235_248.out, NB248_235.out, NB241_248.out, NB248_241.out, NB242_248.out, NB248_242.out, (hbq HB)⟩)
       ·
        skip
        rintro _ w33 ⟨hS_, h0_, h1_, h2_, h3_, h4_, h5_, h6_⟩
        have n0_ : Aside0 (w33.heap[gb232]? = some (.cells #[.int .u64 a2_0, .int .u64 a2_1] 24 (0, 0))) := ⟨h0_⟩
        have n1_ : Aside0 (w33.heap[gb233]? = some (.cells #[.int .u64 a3_0, .int .u64 a3_1] 24 (0, 0))) := ⟨h1_⟩
        have n2_ : Aside0 (w33.heap[gb234]? = some (.cells #[.int .u64 a4_0, .int .u64 a4_1] 24 (0, 0))) := ⟨h2_⟩
        have n3_ : Aside0 (w33.heap[gb235]? = some (.cells #[.int .u64 a5_0, .int .u64 a5_1] 24 (0, 0))) := ⟨h3_⟩
        have n4_ : Aside0 (w33.heap[gb241]? = some (.cells #[.int .u64 t237, .int .u64 t238] 24 (0, 0))) := ⟨h4_⟩
        have n5_ : Aside0 (w33.heap[gb242]? = some (.cells #[.int .u64 t239, .int .u64 t240] 24 (0, 0))) := ⟨h5_⟩
        have n6_ : Aside0 (Below w.heap.size w w33) := ⟨h6_⟩
        clear BK232 BK233 BK234 BK235 BK241 BK242 HB h0_ h1_ h2_ h3_ h4_ h5_ h6_
        have BK232 := n0_
        have BK233 := n1_
        have BK234 := n2_
        have BK235 := n3_
        have BK241 := n4_
        have BK242 := n5_
        have HB := n6_
        clear n0_ n1_ n2_ n3_ n4_ n5_ n6_
        have hHeld : w33.cell? ⟨gb232, 0, none⟩ = some (.int .u64 a2_0) ∧ w33.cell? ⟨gb232, 1, none⟩ = some (.int .u64 a2_1) ∧ w33.cell? ⟨gb233, 0, none⟩ = some (.int .u64 a3_0) ∧ w33.cell? ⟨gb233, 1, none⟩ = some (.int .u64 a3_1) ∧ w33.cell? ⟨gb241, 0, none⟩ = some (.int .u64 t237) ∧ w33.cell? ⟨gb241, 1, none⟩ = some (.int .u64 t238) ∧ w33.cell? ⟨gb242, 0, none⟩ = some (.int .u64 t239) ∧ w33.cell? ⟨gb242, 1, none⟩ = some (.int .u64 t240) := hS_
        refine norm_ (a' := ?_) ?_ ?_
        rotate_left
        ·
         simp only [putAll, Act.put, List.setIfInBounds_toArray, List.set_cons_zero, List.set_cons_succ]
         rfl
        refine two_ (i := 10) (j := 11) (Ni := some 15) (Nj := some 16) backreachlaw11_SpanGrows.M36 backreachlaw11_SpanGrows.M35 rfl rfl rfl rfl (two_of HT_.out (by kernel_rfl)) (by decide) (by decide) (fun K hK => ?_) (fun K hK => ?_)
        ·
         skip
         refine box_step ?hg (N := 15) ?hd (cs := #[.int .u64 0, .int .u64 0]) (t := 24) ?hr ?_; (case hd => rfl); (case hg => rfl); (case hr => first | (go_simp; done) | (go_simp; rfl))
         intro gb247 hg w34 hbox hb
         have n0_ := Aside0.mk (bbq BK232 hb)
         have n1_ := Aside0.mk (bbq BK233 hb)
         have n2_ := Aside0.mk (bbq BK234 hb)
         have n3_ := Aside0.mk (bbq BK235 hb)
         have n4_ := Aside0.mk (bbq BK241 hb)
         have n5_ := Aside0.mk (bbq BK242 hb)
         have n6_ := Aside0.mk (below_step (hbq HB) hb)
         have n7_ := Aside0.mk (hbox)
         have n8_ := Aside0.mk ((bsq hg HB : w.heap.size ≤ gb247))
         have n9_ := Aside0.mk ((bsq hg HB : w.heap.size ≤ gb247))
         have n10_ := Aside0.mk ((nlq hg BK232 : gb232 ≠ gb247))
         have n11_ := Aside0.mk ((ngq hg BK232 : gb247 ≠ gb232))
         have n12_ := Aside0.mk ((nlq hg BK233 : gb233 ≠ gb247))
         have n13_ := Aside0.mk ((ngq hg BK233 : gb247 ≠ gb233))
         have n14_ := Aside0.mk ((nlq hg BK234 : gb234 ≠ gb247))
         have n15_ := Aside0.mk ((ngq hg BK234 : gb247 ≠ gb234))
         have n16_ := Aside0.mk ((nlq hg BK235 : gb235 ≠ gb247))
         have n17_ := Aside0.mk ((ngq hg BK235 : gb247 ≠ gb235))
         have n18_ := Aside0.mk ((nlq hg BK241 : gb241 ≠ gb247))
         have n19_ := Aside0.mk ((ngq hg BK241 : gb247 ≠ gb241))
         have n20_ := Aside0.mk ((nlq hg BK242 : gb242 ≠ gb247))
         have n21_ := Aside0.mk ((ngq hg BK242 : gb247 ≠ gb242))
         clear BK232 BK233 BK234 BK235 BK241 BK242 HB
         have BK232 := n0_
         have BK233 := n1_
         have BK234 := n2_
         have BK235 := n3_
         have BK241 := n4_
         have BK242 := n5_
         have HB := n6_
         have BK247 := n7_
         have GW247 := n8_
         have GE247 := n9_
         have NB232_247 := n10_
         have NB247_232 := n11_
         have NB233_247 := n12_
         have NB247_233 := n13_
         have NB234_247 := n14_
         have NB247_234 := n15_
         have NB235_247 := n16_
         have NB247_235 := n17_
         have NB241_247 := n18_
         have NB247_241 := n19_
         have NB242_247 := n20_
         have NB247_242 := n21_
         clear n0_ n1_ n2_ n3_ n4_ n5_ n6_ n7_ n8_ n9_ n10_ n11_ n12_ n13_ n14_ n15_ n16_ n17_ n18_ n19_ n20_ n21_ hb hbox hg
         refine hK.out _ _ ⟨(blk_cell BK232.out 0).trans rfl, (blk_cell BK232.out 1).trans rfl, (blk_cell BK233.out 0).trans rfl, (blk_cell BK233.out 1).trans rfl, (blk_cell BK241.out 0).trans rfl, (blk_cell BK241.out 1).trans rfl, (blk_cell BK242.out 0).trans rfl, (blk_cell BK242.out 1).trans rfl⟩ (fun hHeld => ?_)
         clear hK K
         refine norm_ (a' := ?_) ?_ ?_
         rotate_left
         ·
          show Act.put _ (some 15) _ = _
          simp only [Act.put, List.setIfInBounds_toArray, List.set_cons_zero, List.set_cons_succ, i64_w, i32_w]
          rfl
         exact nq_ (hJ4_9_10 (gb247) _ ⟨hHeld, (bkq BK232), (bkq BK233), (bkq BK234), (bkq BK235), (bkq BK241), (bkq BK242), (bkq BK247), GW247.out, GE247.out, NB232_247.out, NB247_232.out, NB233_247.out, NB247_233.out, NB234_247.out, NB247_234.out, NB235_247.out, NB247_235.out, NB241_247.out, NB247_241.out, NB242_247.out, NB247_242.out, (hbq HB)⟩)
        ·
         skip
         refine box_step ?hg (N := 16) ?hd (cs := #[.int .u64 0, .int .u64 0]) (t := 24) ?hr ?_; (case hd => rfl); (case hg => rfl); (case hr => first | (go_simp; done) | (go_simp; rfl))
         intro gb248 hg w34 hbox hb
         have n0_ := Aside0.mk (bbq BK232 hb)
         have n1_ := Aside0.mk (bbq BK233 hb)
         have n2_ := Aside0.mk (bbq BK234 hb)
         have n3_ := Aside0.mk (bbq BK235 hb)
         have n4_ := Aside0.mk (bbq BK241 hb)
         have n5_ := Aside0.mk (bbq BK242 hb)
         have n6_ := Aside0.mk (below_step (hbq HB) hb)
         have n7_ := Aside0.mk (hbox)
         have n8_ := Aside0.mk ((bsq hg HB : w.heap.size ≤ gb248))
         have n9_ := Aside0.mk ((bsq hg HB : w.heap.size ≤ gb248))
         have n10_ := Aside0.mk ((nlq hg BK232 : gb232 ≠ gb248))
         have n11_ := Aside0.mk ((ngq hg BK232 : gb248 ≠ gb232))
         have n12_ := Aside0.mk ((nlq hg BK233 : gb233 ≠ gb248))
         have n13_ := Aside0.mk ((ngq hg BK233 : gb248 ≠ gb233))
         have n14_ := Aside0.mk ((nlq hg BK234 : gb234 ≠ gb248))
         have n15_ := Aside0.mk ((ngq hg BK234 : gb248 ≠ gb234))
         have n16_ := Aside0.mk ((nlq hg BK235 : gb235 ≠ gb248))
         have n17_ := Aside0.mk ((ngq hg BK235 : gb248 ≠ gb235))
         have n18_ := Aside0.mk ((nlq hg BK241 : gb241 ≠ gb248))
         have n19_ := Aside0.mk ((ngq hg BK241 : gb248 ≠ gb241))
         have n20_ := Aside0.mk ((nlq hg BK242 : gb242 ≠ gb248))
         have n21_ := Aside0.mk ((ngq hg BK242 : gb248 ≠ gb242))
         clear BK232 BK233 BK234 BK235 BK241 BK242 HB
         have BK232 := n0_
         have BK233 := n1_
         have BK234 := n2_
         have BK235 := n3_
         have BK241 := n4_
         have BK242 := n5_
         have HB := n6_
         have BK248 := n7_
         have GW248 := n8_
         have GE248 := n9_
         have NB232_248 := n10_
         have NB248_232 := n11_
         have NB233_248 := n12_
         have NB248_233 := n13_
         have NB234_248 := n14_
         have NB248_234 := n15_
         have NB235_248 := n16_
         have NB248_235 := n17_
         have NB241_248 := n18_
         have NB248_241 := n19_
         have NB242_248 := n20_
         have NB248_242 := n21_
         clear n0_ n1_ n2_ n3_ n4_ n5_ n6_ n7_ n8_ n9_ n10_ n11_ n12_ n13_ n14_ n15_ n16_ n17_ n18_ n19_ n20_ n21_ hb hbox hg
         refine hK.out _ _ ⟨(blk_cell BK232.out 0).trans rfl, (blk_cell BK232.out 1).trans rfl, (blk_cell BK233.out 0).trans rfl, (blk_cell BK233.out 1).trans rfl, (blk_cell BK241.out 0).trans rfl, (blk_cell BK241.out 1).trans rfl, (blk_cell BK242.out 0).trans rfl, (blk_cell BK242.out 1).trans rfl⟩ (fun hHeld => ?_)
         clear hK K
         refine norm_ (a' := ?_) ?_ ?_
         rotate_left
         ·
          show Act.put _ (some 16) _ = _
          simp only [Act.put, List.setIfInBounds_toArray, List.set_cons_zero, List.set_cons_succ, i64_w, i32_w]
          rfl
         exact nq_ (hJ4_9_11 (gb248) _ ⟨hHeld, (bkq BK232), (bkq BK233), (bkq BK234), (bkq BK235), (bkq BK241), (bkq BK242), (bkq BK248), GW248.out, GE248.out, NB232_248.out, NB248_232.out, NB233_248.out, NB248_233.out, NB234_248.out, NB248_234.out, NB235_248.out, NB248_235.out, NB241_248.out, NB248_241.out, NB242_248.out, NB248_242.out, (hbq HB)⟩)
      ·
       skip
       rintro ⟨gb247, gb248⟩ w34 ⟨hS_, h0_, h1_, h2_, h3_, h4_, h5_, h6_, h7_, h8_, h9_, h10_, h11_, h12_, h13_, h14_, h15_, h16_, h17_, h18_, h19_, h20_, h21_, h22_, h23_, h24_, h25_, h26_, h27_, h28_, h29_, h30_, h31_, h32_, h33_, h34_, h35_, h36_, h37_, h38_⟩
       have n0_ : Aside0 (w34.heap[gb232]? = some (.cells #[.int .u64 a2_0, .int .u64 a2_1] 24 (0, 0))) := ⟨h0_⟩
       have n1_ : Aside0 (w34.heap[gb233]? = some (.cells #[.int .u64 a3_0, .int .u64 a3_1] 24 (0, 0))) := ⟨h1_⟩
       have n2_ : Aside0 (w34.heap[gb234]? = some (.cells #[.int .u64 a4_0, .int .u64 a4_1] 24 (0, 0))) := ⟨h2_⟩
       have n3_ : Aside0 (w34.heap[gb235]? = some (.cells #[.int .u64 a5_0, .int .u64 a5_1] 24 (0, 0))) := ⟨h3_⟩
       have n4_ : Aside0 (w34.heap[gb241]? = some (.cells #[.int .u64 t237, .int .u64 t238] 24 (0, 0))) := ⟨h4_⟩
       have n5_ : Aside0 (w34.heap[gb242]? = some (.cells #[.int .u64 t239, .int .u64 t240] 24 (0, 0))) := ⟨h5_⟩
       have n6_ : Aside0 (w34.heap[gb247]? = some (.cells #[.int .u64 0, .int .u64 0] 24 (0, 0))) := ⟨h6_⟩
       have n7_ : Aside0 (w34.heap[gb248]? = some (.cells #[.int .u64 0, .int .u64 0] 24 (0, 0))) := ⟨h7_⟩
       have n8_ : Aside0 (w.heap.size ≤ gb247) := ⟨h8_⟩
       have n9_ : Aside0 (w.heap.size ≤ gb247) := ⟨h9_⟩
       have n10_ : Aside0 (gb232 ≠ gb247) := ⟨h10_⟩
       have n11_ : Aside0 (gb247 ≠ gb232) := ⟨h11_⟩
       have n12_ : Aside0 (gb233 ≠ gb247) := ⟨h12_⟩
       have n13_ : Aside0 (gb247 ≠ gb233) := ⟨h13_⟩
       have n14_ : Aside0 (gb234 ≠ gb247) := ⟨h14_⟩
       have n15_ : Aside0 (gb247 ≠ gb234) := ⟨h15_⟩
       have n16_ : Aside0 (gb235 ≠ gb247) := ⟨h16_⟩
       have n17_ : Aside0 (gb247 ≠ gb235) := ⟨h17_⟩
       have n18_ : Aside0 (gb241 ≠ gb247) := ⟨h18_⟩
       have n19_ : Aside0 (gb247 ≠ gb241) := ⟨h19_⟩
       have n20_ : Aside0 (gb242 ≠ gb247) := ⟨h20_⟩
       have n21_ : Aside0 (gb247 ≠ gb242) := ⟨h21_⟩
       have n22_ : Aside0 (gb248 ≠ gb247) := ⟨h22_⟩
       have n23_ : Aside0 (gb247 ≠ gb248) := ⟨h23_⟩
       have n24_ : Aside0 (w.heap.size ≤ gb248) := ⟨h24_⟩
       have n25_ : Aside0 (w.heap.size ≤ gb248) := ⟨h25_⟩
       have n26_ : Aside0 (gb232 ≠ gb248) := ⟨h26_⟩
       have n27_ : Aside0 (gb248 ≠ gb232) := ⟨h27_⟩
       have n28_ : Aside0 (gb233 ≠ gb248) := ⟨h28_⟩
       have n29_ : Aside0 (gb248 ≠ gb233) := ⟨h29_⟩
       have n30_ : Aside0 (gb234 ≠ gb248) := ⟨h30_⟩
       have n31_ : Aside0 (gb248 ≠ gb234) := ⟨h31_⟩
       have n32_ : Aside0 (gb235 ≠ gb248) := ⟨h32_⟩
       have n33_ : Aside0 (gb248 ≠ gb235) := ⟨h33_⟩
       have n34_ : Aside0 (gb241 ≠ gb248) := ⟨h34_⟩
       have n35_ : Aside0 (gb248 ≠ gb241) := ⟨h35_⟩
       have n36_ : Aside0 (gb242 ≠ gb248) := ⟨h36_⟩
       have n37_ : Aside0 (gb248 ≠ gb242) := ⟨h37_⟩
       have n38_ : Aside0 (Below w.heap.size w w34) := ⟨h38_⟩
       clear BK232 BK233 BK234 BK235 BK241 BK242 HB h0_ h1_ h2_ h3_ h4_ h5_ h6_ h7_ h8_ h9_ h10_ h11_ h12_ h13_ h14_ h15_ h16_ h17_ h18_ h19_ h20_ h21_ h22_ h23_ h24_ h25_ h26_ h27_ h28_ h29_ h30_ h31_ h32_ h33_ h34_ h35_ h36_ h37_ h38_
       have BK232 := n0_
       have BK233 := n1_
       have BK234 := n2_
       have BK235 := n3_
       have BK241 := n4_
       have BK242 := n5_
       have BK247 := n6_
       have BK248 := n7_
       have GW247 := n8_
       have GE247 := n9_
       have NB232_247 := n10_
       have NB247_232 := n11_
       have NB233_247 := n12_
       have NB247_233 := n13_
       have NB234_247 := n14_
       have NB247_234 := n15_
       have NB235_247 := n16_
       have NB247_235 := n17_
       have NB241_247 := n18_
       have NB247_241 := n19_
       have NB242_247 := n20_
       have NB247_242 := n21_
       have NB248_247 := n22_
       have NB247_248 := n23_
       have GW248 := n24_
       have GE248 := n25_
       have NB232_248 := n26_
       have NB248_232 := n27_
       have NB233_248 := n28_
       have NB248_233 := n29_
       have NB234_248 := n30_
       have NB248_234 := n31_
       have NB235_248 := n32_
       have NB248_235 := n33_
       have NB241_248 := n34_
       have NB248_241 := n35_
       have NB242_248 := n36_
       have NB248_242 := n37_
       have HB := n38_
       clear n0_ n1_ n2_ n3_ n4_ n5_ n6_ n7_ n8_ n9_ n10_ n11_ n12_ n13_ n14_ n15_ n16_ n17_ n18_ n19_ n20_ n21_ n22_ n23_ n24_ n25_ n26_ n27_ n28_ n29_ n30_ n31_ n32_ n33_ n34_ n35_ n36_ n37_ n38_
       have hHeld : w34.cell? ⟨gb232, 0, none⟩ = some (.int .u64 a2_0) ∧ w34.cell? ⟨gb232, 1, none⟩ = some (.int .u64 a2_1) ∧ w34.cell? ⟨gb233, 0, none⟩ = some (.int .u64 a3_0) ∧ w34.cell? ⟨gb233, 1, none⟩ = some (.int .u64 a3_1) ∧ w34.cell? ⟨gb241, 0, none⟩ = some (.int .u64 t237) ∧ w34.cell? ⟨gb241, 1, none⟩ = some (.int .u64 t238) ∧ w34.cell? ⟨gb242, 0, none⟩ = some (.int .u64 t239) ∧ w34.cell? ⟨gb242, 1, none⟩ = some (.int .u64 t240) := hS_
       refine norm_ (a' := ?_) ?_ ?_
       rotate_left
       ·
        simp only [putAll, Act.put, List.setIfInBounds_toArray, List.set_cons_zero, List.set_cons_succ]
        rfl
       refine one_ (i := 9) (N := some 36) backreachlaw11_SpanGrows.M38 rfl rfl (one_of HT_.out (by kernel_rfl)) (by decide) (fun K hK => ?_)
       refine goes_ Try.func10 (by kernel_rfl) rfl #[.int .i64 a0, .int .i64 a1, .agg #[.int .u64 t237, .int .u64 t238], .agg #[.int .u64 t239, .int .u64 t240]] (by rfl) rfl rfl (by (try simp only [List.map_toArray, List.map_cons, List.map_nil]); first | done | rfl | (simp only [List.length_drop, List.length_take]; rfl)) ?_
       with_reducible refine (span_Apply.calls k a0 a1 t237 t238 t239 t240 t245 t246 _ A12.out).mono ?_
       rintro e w35 ⟨rfl, hb⟩
       refine ⟨_, rfl, ?_⟩
       have n0_ := Aside0.mk (bbq BK232 hb)
       have n1_ := Aside0.mk (bbq BK233 hb)
       have n2_ := Aside0.mk (bbq BK234 hb)
       have n3_ := Aside0.mk (bbq BK235 hb)
       have n4_ := Aside0.mk (bbq BK241 hb)
       have n5_ := Aside0.mk (bbq BK242 hb)
       have n6_ := Aside0.mk (bbq BK247 hb)
       have n7_ := Aside0.mk (bbq BK248 hb)
       have n8_ := Aside0.mk (below_step (hbq HB) hb)
       clear BK232 BK233 BK234 BK235 BK241 BK242 BK247 BK248 HB
       have BK232 := n0_
       have BK233 := n1_
       have BK234 := n2_
       have BK235 := n3_
       have BK241 := n4_
       have BK242 := n5_
       have BK247 := n6_
       have BK248 := n7_
       have HB := n8_
       clear n0_ n1_ n2_ n3_ n4_ n5_ n6_ n7_ n8_
       (try clear hb)
       (try clear hb2)
       (try clear hk)
       (try clear hi)
       refine hK.out _ _ ⟨(blk_cell BK232.out 0).trans rfl, (blk_cell BK232.out 1).trans rfl, (blk_cell BK233.out 0).trans rfl, (blk_cell BK233.out 1).trans rfl, (blk_cell BK241.out 0).trans rfl, (blk_cell BK241.out 1).trans rfl, (blk_cell BK242.out 0).trans rfl, (blk_cell BK242.out 1).trans rfl⟩ (fun hHeld => ?_)
       clear hK K
       refine norm_ (a' := ?_) ?_ ?_
       rotate_left
       ·
        show Act.put _ (some 36) _ = _
        simp only [Act.put, List.setIfInBounds_toArray, List.set_cons_zero, List.set_cons_succ, i64_w, i32_w]
        rfl
       exact nq_ (hJ4_9_10_11 (gb247, gb248) _ ⟨hHeld, (bkq BK232), (bkq BK233), (bkq BK234), (bkq BK235), (bkq BK241), (bkq BK242), (bkq BK247), (bkq BK248), GW247.out, GE247.out, NB232_247.out, NB247_232.out, NB233_247.out, NB247_233.out, NB234_247.out, NB247_234.out, NB235_247.out, NB247_235.out, NB241_247.out, NB247_241.out, NB242_247.out, NB247_242.out, NB248_247.out, NB247_248.out, GW248.out, GE248.out, NB232_248.out, NB248_232.out, NB233_248.out, NB248_233.out, NB234_248.out, NB248_234.out, NB235_248.out, NB248_235.out, NB241_248.out, NB248_241.out, NB242_248.out, NB248_242.out, (hbq HB)⟩)
     ·
      skip
      rintro gb248 w34 ⟨hS_, h0_, h1_, h2_, h3_, h4_, h5_, h6_, h7_, h8_, h9_, h10_, h11_, h12_, h13_, h14_, h15_, h16_, h17_, h18_, h19_, h20_, h21_⟩
      have n0_ : Aside0 (w34.heap[gb232]? = some (.cells #[.int .u64 a2_0, .int .u64 a2_1] 24 (0, 0))) := ⟨h0_⟩
      have n1_ : Aside0 (w34.heap[gb233]? = some (.cells #[.int .u64 a3_0, .int .u64 a3_1] 24 (0, 0))) := ⟨h1_⟩
      have n2_ : Aside0 (w34.heap[gb234]? = some (.cells #[.int .u64 a4_0, .int .u64 a4_1] 24 (0, 0))) := ⟨h2_⟩
      have n3_ : Aside0 (w34.heap[gb235]? = some (.cells #[.int .u64 a5_0, .int .u64 a5_1] 24 (0, 0))) := ⟨h3_⟩
      have n4_ : Aside0 (w34.heap[gb241]? = some (.cells #[.int .u64 t237, .int .u64 t238] 24 (0, 0))) := ⟨h4_⟩
      have n5_ : Aside0 (w34.heap[gb242]? = some (.cells #[.int .u64 t239, .int .u64 t240] 24 (0, 0))) := ⟨h5_⟩
      have n6_ : Aside0 (w34.heap[gb248]? = some (.cells #[.int .u64 0, .int .u64 0] 24 (0, 0))) := ⟨h6_⟩
      have n7_ : Aside0 (w.heap.size ≤ gb248) := ⟨h7_⟩
      have n8_ : Aside0 (w.heap.size ≤ gb248) := ⟨h8_⟩
      have n9_ : Aside0 (gb232 ≠ gb248) := ⟨h9_⟩
      have n10_ : Aside0 (gb248 ≠ gb232) := ⟨h10_⟩
      have n11_ : Aside0 (gb233 ≠ gb248) := ⟨h11_⟩
      have n12_ : Aside0 (gb248 ≠ gb233) := ⟨h12_⟩
      have n13_ : Aside0 (gb234 ≠ gb248) := ⟨h13_⟩
      have n14_ : Aside0 (gb248 ≠ gb234) := ⟨h14_⟩
      have n15_ : Aside0 (gb235 ≠ gb248) := ⟨h15_⟩
      have n16_ : Aside0 (gb248 ≠ gb235) := ⟨h16_⟩
      have n17_ : Aside0 (gb241 ≠ gb248) := ⟨h17_⟩
      have n18_ : Aside0 (gb248 ≠ gb241) := ⟨h18_⟩
      have n19_ : Aside0 (gb242 ≠ gb248) := ⟨h19_⟩
      have n20_ : Aside0 (gb248 ≠ gb242) := ⟨h20_⟩
      have n21_ : Aside0 (Below w.heap.size w w34) := ⟨h21_⟩
      clear BK232 BK233 BK234 BK235 BK241 BK242 HB h0_ h1_ h2_ h3_ h4_ h5_ h6_ h7_ h8_ h9_ h10_ h11_ h12_ h13_ h14_ h15_ h16_ h17_ h18_ h19_ h20_ h21_
      have BK232 := n0_
      have BK233 := n1_
      have BK234 := n2_
      have BK235 := n3_
      have BK241 := n4_
      have BK242 := n5_
      have BK248 := n6_
      have GW248 := n7_
      have GE248 := n8_
      have NB232_248 := n9_
      have NB248_232 := n10_
      have NB233_248 := n11_
      have NB248_233 := n12_
      have NB234_248 := n13_
      have NB248_234 := n14_
      have NB235_248 := n15_
      have NB248_235 := n16_
      have NB241_248 := n17_
      have NB248_241 := n18_
      have NB242_248 := n19_
      have NB248_242 := n20_
      have HB := n21_
      clear n0_ n1_ n2_ n3_ n4_ n5_ n6_ n7_ n8_ n9_ n10_ n11_ n12_ n13_ n14_ n15_ n16_ n17_ n18_ n19_ n20_ n21_
      have hHeld : w34.cell? ⟨gb232, 0, none⟩ = some (.int .u64 a2_0) ∧ w34.cell? ⟨gb232, 1, none⟩ = some (.int .u64 a2_1) ∧ w34.cell? ⟨gb233, 0, none⟩ = some (.int .u64 a3_0) ∧ w34.cell? ⟨gb233, 1, none⟩ = some (.int .u64 a3_1) ∧ w34.cell? ⟨gb241, 0, none⟩ = some (.int .u64 t237) ∧ w34.cell? ⟨gb241, 1, none⟩ = some (.int .u64 t238) ∧ w34.cell? ⟨gb242, 0, none⟩ = some (.int .u64 t239) ∧ w34.cell? ⟨gb242, 1, none⟩ = some (.int .u64 t240) := hS_
      refine norm_ (a' := ?_) ?_ ?_
      rotate_left
      ·
       simp only [putAll, Act.put, List.setIfInBounds_toArray, List.set_cons_zero, List.set_cons_succ]
       rfl
      refine one_ (i := 10) (N := some 15) backreachlaw11_SpanGrows.M38 rfl rfl (one_of HT_.out (by kernel_rfl)) (by decide) (fun K hK => ?_)
      refine box_step ?hg (N := 15) ?hd (cs := #[.int .u64 0, .int .u64 0]) (t := 24) ?hr ?_; (case hd => rfl); (case hg => rfl); (case hr => first | (go_simp; done) | (go_simp; rfl))
      intro gb247 hg w35 hbox hb
      have n0_ := Aside0.mk (bbq BK232 hb)
      have n1_ := Aside0.mk (bbq BK233 hb)
      have n2_ := Aside0.mk (bbq BK234 hb)
      have n3_ := Aside0.mk (bbq BK235 hb)
      have n4_ := Aside0.mk (bbq BK241 hb)
      have n5_ := Aside0.mk (bbq BK242 hb)
      have n6_ := Aside0.mk (bbq BK248 hb)
      have n7_ := Aside0.mk (below_step (hbq HB) hb)
      have n8_ := Aside0.mk (hbox)
      have n9_ := Aside0.mk ((bsq hg HB : w.heap.size ≤ gb247))
      have n10_ := Aside0.mk ((bsq hg HB : w.heap.size ≤ gb247))
      have n11_ := Aside0.mk ((nlq hg BK232 : gb232 ≠ gb247))
      have n12_ := Aside0.mk ((ngq hg BK232 : gb247 ≠ gb232))
      have n13_ := Aside0.mk ((nlq hg BK233 : gb233 ≠ gb247))
      have n14_ := Aside0.mk ((ngq hg BK233 : gb247 ≠ gb233))
      have n15_ := Aside0.mk ((nlq hg BK234 : gb234 ≠ gb247))
      have n16_ := Aside0.mk ((ngq hg BK234 : gb247 ≠ gb234))
      have n17_ := Aside0.mk ((nlq hg BK235 : gb235 ≠ gb247))
      have n18_ := Aside0.mk ((ngq hg BK235 : gb247 ≠ gb235))
      have n19_ := Aside0.mk ((nlq hg BK241 : gb241 ≠ gb247))
      have n20_ := Aside0.mk ((ngq hg BK241 : gb247 ≠ gb241))
      have n21_ := Aside0.mk ((nlq hg BK242 : gb242 ≠ gb247))
      have n22_ := Aside0.mk ((ngq hg BK242 : gb247 ≠ gb242))
      have n23_ := Aside0.mk ((nlq hg BK248 : gb248 ≠ gb247))
      have n24_ := Aside0.mk ((ngq hg BK248 : gb247 ≠ gb248))
      clear BK232 BK233 BK234 BK235 BK241 BK242 BK248 HB
      have BK232 := n0_
      have BK233 := n1_
      have BK234 := n2_
      have BK235 := n3_
      have BK241 := n4_
      have BK242 := n5_
      have BK248 := n6_
      have HB := n7_
      have BK247 := n8_
      have GW247 := n9_
      have GE247 := n10_
      have NB232_247 := n11_
      have NB247_232 := n12_
      have NB233_247 := n13_
      have NB247_233 := n14_
      have NB234_247 := n15_
      have NB247_234 := n16_
      have NB235_247 := n17_
      have NB247_235 := n18_
      have NB241_247 := n19_
      have NB247_241 := n20_
      have NB242_247 := n21_
      have NB247_242 := n22_
      have NB248_247 := n23_
      have NB247_248 := n24_
      clear n0_ n1_ n2_ n3_ n4_ n5_ n6_ n7_ n8_ n9_ n10_ n11_ n12_ n13_ n14_ n15_ n16_ n17_ n18_ n19_ n20_ n21_ n22_ n23_ n24_ hb hbox hg
      refine hK.out _ _ ⟨(blk_cell BK232.out 0).trans rfl, (blk_cell BK232.out 1).trans rfl, (blk_cell BK233.out 0).trans rfl, (blk_cell BK233.out 1).trans rfl, (blk_cell BK241.out 0).trans rfl, (blk_cell BK241.out 1).trans rfl, (blk_cell BK242.out 0).trans rfl, (blk_cell BK242.out 1).trans rfl⟩ (fun hHeld => ?_)
      clear hK K
      refine norm_ (a' := ?_) ?_ ?_
      rotate_left
      ·
       show Act.put _ (some 15) _ = _
       simp only [Act.put, List.setIfInBounds_toArray, List.set_cons_zero, List.set_cons_succ, i64_w, i32_w]
       rfl
      exact nq_ (hJ4_9_10_11 (gb247, gb248) _ ⟨hHeld, (bkq BK232), (bkq BK233), (bkq BK234), (bkq BK235), (bkq BK241), (bkq BK242), (bkq BK247), (bkq BK248), GW247.out, GE247.out, NB232_247.out, NB247_232.out, NB233_247.out, NB247_233.out, NB234_247.out, NB247_234.out, NB235_247.out, NB247_235.out, NB241_247.out, NB247_241.out, NB242_247.out, NB247_242.out, NB248_247.out, NB247_248.out, GW248.out, GE248.out, NB232_248.out, NB248_232.out, NB233_248.out, NB248_233.out, NB234_248.out, NB248_234.out, NB235_248.out, NB248_235.out, NB241_248.out, NB248_241.out, NB242_248.out, NB248_242.out, (hbq HB)⟩)
    ·
     skip
     rintro gb247 w34 ⟨hS_, h0_, h1_, h2_, h3_, h4_, h5_, h6_, h7_, h8_, h9_, h10_, h11_, h12_, h13_, h14_, h15_, h16_, h17_, h18_, h19_, h20_, h21_⟩
     have n0_ : Aside0 (w34.heap[gb232]? = some (.cells #[.int .u64 a2_0, .int .u64 a2_1] 24 (0, 0))) := ⟨h0_⟩
     have n1_ : Aside0 (w34.heap[gb233]? = some (.cells #[.int .u64 a3_0, .int .u64 a3_1] 24 (0, 0))) := ⟨h1_⟩
     have n2_ : Aside0 (w34.heap[gb234]? = some (.cells #[.int .u64 a4_0, .int .u64 a4_1] 24 (0, 0))) := ⟨h2_⟩
     have n3_ : Aside0 (w34.heap[gb235]? = some (.cells #[.int .u64 a5_0, .int .u64 a5_1] 24 (0, 0))) := ⟨h3_⟩
     have n4_ : Aside0 (w34.heap[gb241]? = some (.cells #[.int .u64 t237, .int .u64 t238] 24 (0, 0))) := ⟨h4_⟩
     have n5_ : Aside0 (w34.heap[gb242]? = some (.cells #[.int .u64 t239, .int .u64 t240] 24 (0, 0))) := ⟨h5_⟩
     have n6_ : Aside0 (w34.heap[gb247]? = some (.cells #[.int .u64 0, .int .u64 0] 24 (0, 0))) := ⟨h6_⟩
     have n7_ : Aside0 (w.heap.size ≤ gb247) := ⟨h7_⟩
     have n8_ : Aside0 (w.heap.size ≤ gb247) := ⟨h8_⟩
     have n9_ : Aside0 (gb232 ≠ gb247) := ⟨h9_⟩
     have n10_ : Aside0 (gb247 ≠ gb232) := ⟨h10_⟩
     have n11_ : Aside0 (gb233 ≠ gb247) := ⟨h11_⟩
     have n12_ : Aside0 (gb247 ≠ gb233) := ⟨h12_⟩
     have n13_ : Aside0 (gb234 ≠ gb247) := ⟨h13_⟩
     have n14_ : Aside0 (gb247 ≠ gb234) := ⟨h14_⟩
     have n15_ : Aside0 (gb235 ≠ gb247) := ⟨h15_⟩
     have n16_ : Aside0 (gb247 ≠ gb235) := ⟨h16_⟩
     have n17_ : Aside0 (gb241 ≠ gb247) := ⟨h17_⟩
     have n18_ : Aside0 (gb247 ≠ gb241) := ⟨h18_⟩
     have n19_ : Aside0 (gb242 ≠ gb247) := ⟨h19_⟩
     have n20_ : Aside0 (gb247 ≠ gb242) := ⟨h20_⟩
     have n21_ : Aside0 (Below w.heap.size w w34) := ⟨h21_⟩
     clear BK232 BK233 BK234 BK235 BK241 BK242 HB h0_ h1_ h2_ h3_ h4_ h5_ h6_ h7_ h8_ h9_ h10_ h11_ h12_ h13_ h14_ h15_ h16_ h17_ h18_ h19_ h20_ h21_
     have BK232 := n0_
     have BK233 := n1_
     have BK234 := n2_
     have BK235 := n3_
     have BK241 := n4_
     have BK242 := n5_
     have BK247 := n6_
     have GW247 := n7_
     have GE247 := n8_
     have NB232_247 := n9_
     have NB247_232 := n10_
     have NB233_247 := n11_
     have NB247_233 := n12_
     have NB234_247 := n13_
     have NB247_234 := n14_
     have NB235_247 := n15_
     have NB247_235 := n16_
     have NB241_247 := n17_
     have NB247_241 := n18_
     have NB242_247 := n19_
     have NB247_242 := n20_
     have HB := n21_
     clear n0_ n1_ n2_ n3_ n4_ n5_ n6_ n7_ n8_ n9_ n10_ n11_ n12_ n13_ n14_ n15_ n16_ n17_ n18_ n19_ n20_ n21_
     have hHeld : w34.cell? ⟨gb232, 0, none⟩ = some (.int .u64 a2_0) ∧ w34.cell? ⟨gb232, 1, none⟩ = some (.int .u64 a2_1) ∧ w34.cell? ⟨gb233, 0, none⟩ = some (.int .u64 a3_0) ∧ w34.cell? ⟨gb233, 1, none⟩ = some (.int .u64 a3_1) ∧ w34.cell? ⟨gb241, 0, none⟩ = some (.int .u64 t237) ∧ w34.cell? ⟨gb241, 1, none⟩ = some (.int .u64 t238) ∧ w34.cell? ⟨gb242, 0, none⟩ = some (.int .u64 t239) ∧ w34.cell? ⟨gb242, 1, none⟩ = some (.int .u64 t240) := hS_
     refine norm_ (a' := ?_) ?_ ?_
     rotate_left
     ·
      simp only [putAll, Act.put, List.setIfInBounds_toArray, List.set_cons_zero, List.set_cons_succ]
      rfl
     refine one_ (i := 11) (N := some 16) backreachlaw11_SpanGrows.M38 rfl rfl (one_of HT_.out (by kernel_rfl)) (by decide) (fun K hK => ?_)
     refine box_step ?hg (N := 16) ?hd (cs := #[.int .u64 0, .int .u64 0]) (t := 24) ?hr ?_; (case hd => rfl); (case hg => rfl); (case hr => first | (go_simp; done) | (go_simp; rfl))
     intro gb248 hg w35 hbox hb
     have n0_ := Aside0.mk (bbq BK232 hb)
     have n1_ := Aside0.mk (bbq BK233 hb)
     have n2_ := Aside0.mk (bbq BK234 hb)
     have n3_ := Aside0.mk (bbq BK235 hb)
     have n4_ := Aside0.mk (bbq BK241 hb)
     have n5_ := Aside0.mk (bbq BK242 hb)
     have n6_ := Aside0.mk (bbq BK247 hb)
     have n7_ := Aside0.mk (below_step (hbq HB) hb)
     have n8_ := Aside0.mk (hbox)
     have n9_ := Aside0.mk ((bsq hg HB : w.heap.size ≤ gb248))
     have n10_ := Aside0.mk ((bsq hg HB : w.heap.size ≤ gb248))
     have n11_ := Aside0.mk ((nlq hg BK232 : gb232 ≠ gb248))
     have n12_ := Aside0.mk ((ngq hg BK232 : gb248 ≠ gb232))
     have n13_ := Aside0.mk ((nlq hg BK233 : gb233 ≠ gb248))
     have n14_ := Aside0.mk ((ngq hg BK233 : gb248 ≠ gb233))
     have n15_ := Aside0.mk ((nlq hg BK234 : gb234 ≠ gb248))
     have n16_ := Aside0.mk ((ngq hg BK234 : gb248 ≠ gb234))
     have n17_ := Aside0.mk ((nlq hg BK235 : gb235 ≠ gb248))
     have n18_ := Aside0.mk ((ngq hg BK235 : gb248 ≠ gb235))
     have n19_ := Aside0.mk ((nlq hg BK241 : gb241 ≠ gb248))
     have n20_ := Aside0.mk ((ngq hg BK241 : gb248 ≠ gb241))
     have n21_ := Aside0.mk ((nlq hg BK242 : gb242 ≠ gb248))
     have n22_ := Aside0.mk ((ngq hg BK242 : gb248 ≠ gb242))
     have n23_ := Aside0.mk ((nlq hg BK247 : gb247 ≠ gb248))
     have n24_ := Aside0.mk ((ngq hg BK247 : gb248 ≠ gb247))
     clear BK232 BK233 BK234 BK235 BK241 BK242 BK247 HB
     have BK232 := n0_
     have BK233 := n1_
     have BK234 := n2_
     have BK235 := n3_
     have BK241 := n4_
     have BK242 := n5_
     have BK247 := n6_
     have HB := n7_
     have BK248 := n8_
     have GW248 := n9_
     have GE248 := n10_
     have NB232_248 := n11_
     have NB248_232 := n12_
     have NB233_248 := n13_
     have NB248_233 := n14_
     have NB234_248 := n15_
     have NB248_234 := n16_
     have NB235_248 := n17_
     have NB248_235 := n18_
     have NB241_248 := n19_
     have NB248_241 := n20_
     have NB242_248 := n21_
     have NB248_242 := n22_
     have NB247_248 := n23_
     have NB248_247 := n24_
     clear n0_ n1_ n2_ n3_ n4_ n5_ n6_ n7_ n8_ n9_ n10_ n11_ n12_ n13_ n14_ n15_ n16_ n17_ n18_ n19_ n20_ n21_ n22_ n23_ n24_ hb hbox hg
     refine hK.out _ _ ⟨(blk_cell BK232.out 0).trans rfl, (blk_cell BK232.out 1).trans rfl, (blk_cell BK233.out 0).trans rfl, (blk_cell BK233.out 1).trans rfl, (blk_cell BK241.out 0).trans rfl, (blk_cell BK241.out 1).trans rfl, (blk_cell BK242.out 0).trans rfl, (blk_cell BK242.out 1).trans rfl⟩ (fun hHeld => ?_)
     clear hK K
     refine norm_ (a' := ?_) ?_ ?_
     rotate_left
     ·
      show Act.put _ (some 16) _ = _
      simp only [Act.put, List.setIfInBounds_toArray, List.set_cons_zero, List.set_cons_succ, i64_w, i32_w]
      rfl
     exact nq_ (hJ4_9_10_11 (gb247, gb248) _ ⟨hHeld, (bkq BK232), (bkq BK233), (bkq BK234), (bkq BK235), (bkq BK241), (bkq BK242), (bkq BK247), (bkq BK248), GW247.out, GE247.out, NB232_247.out, NB247_232.out, NB233_247.out, NB247_233.out, NB234_247.out, NB247_234.out, NB235_247.out, NB247_235.out, NB241_247.out, NB247_241.out, NB242_247.out, NB247_242.out, NB248_247.out, NB247_248.out, GW248.out, GE248.out, NB232_248.out, NB248_232.out, NB233_248.out, NB248_233.out, NB234_248.out, NB248_234.out, NB235_248.out, NB248_235.out, NB241_248.out, NB248_241.out, NB242_248.out, NB248_242.out, (hbq HB)⟩)
   rintro ⟨gb247, gb248⟩ w35 ⟨hS_, h0_, h1_, h2_, h3_, h4_, h5_, h6_, h7_, h8_, h9_, h10_, h11_, h12_, h13_, h14_, h15_, h16_, h17_, h18_, h19_, h20_, h21_, h22_, h23_, h24_, h25_, h26_, h27_, h28_, h29_, h30_, h31_, h32_, h33_, h34_, h35_, h36_, h37_, h38_⟩
   have n0_ : Aside0 (w35.heap[gb232]? = some (.cells #[.int .u64 a2_0, .int .u64 a2_1] 24 (0, 0))) := ⟨h0_⟩
   have n1_ : Aside0 (w35.heap[gb233]? = some (.cells #[.int .u64 a3_0, .int .u64 a3_1] 24 (0, 0))) := ⟨h1_⟩
   have n2_ : Aside0 (w35.heap[gb234]? = some (.cells #[.int .u64 a4_0, .int .u64 a4_1] 24 (0, 0))) := ⟨h2_⟩
   have n3_ : Aside0 (w35.heap[gb235]? = some (.cells #[.int .u64 a5_0, .int .u64 a5_1] 24 (0, 0))) := ⟨h3_⟩
   have n4_ : Aside0 (w35.heap[gb241]? = some (.cells #[.int .u64 t237, .int .u64 t238] 24 (0, 0))) := ⟨h4_⟩
   have n5_ : Aside0 (w35.heap[gb242]? = some (.cells #[.int .u64 t239, .int .u64 t240] 24 (0, 0))) := ⟨h5_⟩
   have n6_ : Aside0 (w35.heap[gb247]? = some (.cells #[.int .u64 0, .int .u64 0] 24 (0, 0))) := ⟨h6_⟩
   have n7_ : Aside0 (w35.heap[gb248]? = some (.cells #[.int .u64 0, .int .u64 0] 24 (0, 0))) := ⟨h7_⟩
   have n8_ : Aside0 (w.heap.size ≤ gb247) := ⟨h8_⟩
   have n9_ : Aside0 (w.heap.size ≤ gb247) := ⟨h9_⟩
   have n10_ : Aside0 (gb232 ≠ gb247) := ⟨h10_⟩
   have n11_ : Aside0 (gb247 ≠ gb232) := ⟨h11_⟩
   have n12_ : Aside0 (gb233 ≠ gb247) := ⟨h12_⟩
   have n13_ : Aside0 (gb247 ≠ gb233) := ⟨h13_⟩
   have n14_ : Aside0 (gb234 ≠ gb247) := ⟨h14_⟩
   have n15_ : Aside0 (gb247 ≠ gb234) := ⟨h15_⟩
   have n16_ : Aside0 (gb235 ≠ gb247) := ⟨h16_⟩
   have n17_ : Aside0 (gb247 ≠ gb235) := ⟨h17_⟩
   have n18_ : Aside0 (gb241 ≠ gb247) := ⟨h18_⟩
   have n19_ : Aside0 (gb247 ≠ gb241) := ⟨h19_⟩
   have n20_ : Aside0 (gb242 ≠ gb247) := ⟨h20_⟩
   have n21_ : Aside0 (gb247 ≠ gb242) := ⟨h21_⟩
   have n22_ : Aside0 (gb248 ≠ gb247) := ⟨h22_⟩
   have n23_ : Aside0 (gb247 ≠ gb248) := ⟨h23_⟩
   have n24_ : Aside0 (w.heap.size ≤ gb248) := ⟨h24_⟩
   have n25_ : Aside0 (w.heap.size ≤ gb248) := ⟨h25_⟩
   have n26_ : Aside0 (gb232 ≠ gb248) := ⟨h26_⟩
   have n27_ : Aside0 (gb248 ≠ gb232) := ⟨h27_⟩
   have n28_ : Aside0 (gb233 ≠ gb248) := ⟨h28_⟩
   have n29_ : Aside0 (gb248 ≠ gb233) := ⟨h29_⟩
   have n30_ : Aside0 (gb234 ≠ gb248) := ⟨h30_⟩
   have n31_ : Aside0 (gb248 ≠ gb234) := ⟨h31_⟩
   have n32_ : Aside0 (gb235 ≠ gb248) := ⟨h32_⟩
   have n33_ : Aside0 (gb248 ≠ gb235) := ⟨h33_⟩
   have n34_ : Aside0 (gb241 ≠ gb248) := ⟨h34_⟩
   have n35_ : Aside0 (gb248 ≠ gb241) := ⟨h35_⟩
   have n36_ : Aside0 (gb242 ≠ gb248) := ⟨h36_⟩
   have n37_ : Aside0 (gb248 ≠ gb242) := ⟨h37_⟩
   have n38_ : Aside0 (Below w.heap.size w w35) := ⟨h38_⟩
   clear BK232 BK233 BK234 BK235 BK241 BK242 HB h0_ h1_ h2_ h3_ h4_ h5_ h6_ h7_ h8_ h9_ h10_ h11_ h12_ h13_ h14_ h15_ h16_ h17_ h18_ h19_ h20_ h21_ h22_ h23_ h24_ h25_ h26_ h27_ h28_ h29_ h30_ h31_ h32_ h33_ h34_ h35_ h36_ h37_ h38_
   have BK232 := n0_
   have BK233 := n1_
   have BK234 := n2_
   have BK235 := n3_
   have BK241 := n4_
   have BK242 := n5_
   have BK247 := n6_
   have BK248 := n7_
   have GW247 := n8_
   have GE247 := n9_
   have NB232_247 := n10_
   have NB247_232 := n11_
   have NB233_247 := n12_
   have NB247_233 := n13_
   have NB234_247 := n14_
   have NB247_234 := n15_
   have NB235_247 := n16_
   have NB247_235 := n17_
   have NB241_247 := n18_
   have NB247_241 := n19_
   have NB242_247 := n20_
   have NB247_242 := n21_
   have NB248_247 := n22_
   have NB247_248 := n23_
   have GW248 := n24_
   have GE248 := n25_
   have NB232_248 := n26_
   have NB248_232 := n27_
   have NB233_248 := n28_
   have NB248_233 := n29_
   have NB234_248 := n30_
   have NB248_234 := n31_
   have NB235_248 := n32_
   have NB248_235 := n33_
   have NB241_248 := n34_
   have NB248_241 := n35_
   have NB242_248 := n36_
   have NB248_242 := n37_
   have HB := n38_
   clear n0_ n1_ n2_ n3_ n4_ n5_ n6_ n7_ n8_ n9_ n10_ n11_ n12_ n13_ n14_ n15_ n16_ n17_ n18_ n19_ n20_ n21_ n22_ n23_ n24_ n25_ n26_ n27_ n28_ n29_ n30_ n31_ n32_ n33_ n34_ n35_ n36_ n37_ n38_
   have hHeld : w35.cell? ⟨gb232, 0, none⟩ = some (.int .u64 a2_0) ∧ w35.cell? ⟨gb232, 1, none⟩ = some (.int .u64 a2_1) ∧ w35.cell? ⟨gb233, 0, none⟩ = some (.int .u64 a3_0) ∧ w35.cell? ⟨gb233, 1, none⟩ = some (.int .u64 a3_1) ∧ w35.cell? ⟨gb241, 0, none⟩ = some (.int .u64 t237) ∧ w35.cell? ⟨gb241, 1, none⟩ = some (.int .u64 t238) ∧ w35.cell? ⟨gb242, 0, none⟩ = some (.int .u64 t239) ∧ w35.cell? ⟨gb242, 1, none⟩ = some (.int .u64 t240) := hS_
   refine norm_ (a' := ?_) ?_ ?_
   rotate_left
   ·
    simp only [putAll, Act.put, List.setIfInBounds_toArray, List.set_cons_zero, List.set_cons_succ]
    rfl
   refine one_ (i := 12) (N := none) backreachlaw11_SpanGrows.M39 rfl rfl (one_of HT_.out (by kernel_rfl)) (by decide) (fun K hK => ?_)
   have hs36 : w35.cell? ⟨gb247, 0, none⟩ = some (.int .u64 0) := (blk_cell BK247.out 0).trans rfl
   have hfs36 := blk_frozen BK247.out 0
   have hns36_0 := NB232_247.out
   have hns36_1 := NB233_247.out
   have hns36_2 := NB234_247.out
   have hns36_3 := NB235_247.out
   have hns36_4 := NB241_247.out
   have hns36_5 := NB242_247.out
   have hns36_7 := NB248_247.out
   have hms36_0 := NB247_232.out
   have hms36_1 := NB247_233.out
   have hms36_2 := NB247_234.out
   have hms36_3 := NB247_235.out
   have hms36_4 := NB247_241.out
   have hms36_5 := NB247_242.out
   have hms36_7 := NB247_248.out
   have hs37 : w35.cell? ⟨gb247, 1, none⟩ = some (.int .u64 0) := (blk_cell BK247.out 1).trans rfl
   have hfs37 := blk_frozen BK247.out 1
   have hns37_0 := NB232_247.out
   have hns37_1 := NB233_247.out
   have hns37_2 := NB234_247.out
   have hns37_3 := NB235_247.out
   have hns37_4 := NB241_247.out
   have hns37_5 := NB242_247.out
   have hns37_7 := NB248_247.out
   have hms37_0 := NB247_232.out
   have hms37_1 := NB247_233.out
   have hms37_2 := NB247_234.out
   have hms37_3 := NB247_235.out
   have hms37_4 := NB247_241.out
   have hms37_5 := NB247_242.out
   have hms37_7 := NB247_248.out
   refine skip_ (w1 := ?_) (by rfl) rfl ?_ ?_
   rotate_left
   ·
    go_simp
    rfl
   refine hK.out _ _ ⟨((cell_far (p := ⟨gb247, _, none⟩) NB232_247.out _).trans (((cell_far (p := ⟨gb247, _, none⟩) NB232_247.out _).trans (hHeld.1)))), ((cell_far (p := ⟨gb247, _, none⟩) NB232_247.out _).trans (((cell_far (p := ⟨gb247, _, none⟩) NB232_247.out _).trans (hHeld.2.1)))), ((cell_far (p := ⟨gb247, _, none⟩) NB233_247.out _).trans (((cell_far (p := ⟨gb247, _, none⟩) NB233_247.out _).trans (hHeld.2.2.1)))), ((cell_far (p := ⟨gb247, _, none⟩) NB233_247.out _).trans (((cell_far (p := ⟨gb247, _, none⟩) NB233_247.out _).trans (hHeld.2.2.2.1)))), ((cell_far (p := ⟨gb247, _, none⟩) NB241_247.out _).trans (((cell_far (p := ⟨gb247, _, none⟩) NB241_247.out _).trans (hHeld.2.2.2.2.1)))), ((cell_far (p := ⟨gb247, _, none⟩) NB241_247.out _).trans (((cell_far (p := ⟨gb247, _, none⟩) NB241_247.out _).trans (hHeld.2.2.2.2.2.1)))), ((cell_far (p := ⟨gb247, _, none⟩) NB242_247.out _).trans (((cell_far (p := ⟨gb247, _, none⟩) NB242_247.out _).trans (hHeld.2.2.2.2.2.2.1)))), ((cell_far (p := ⟨gb247, _, none⟩) NB242_247.out _).trans (((cell_far (p := ⟨gb247, _, none⟩) NB242_247.out _).trans (hHeld.2.2.2.2.2.2.2))))⟩ (fun hHeld => ?_)
   clear hK K
   refine one_ (i := 13) (N := none) backreachlaw11_SpanGrows.M40 rfl rfl (one_of HT_.out (by kernel_rfl)) (by decide) (fun K hK => ?_)
   have hs38 : w35.cell? ⟨gb248, 0, none⟩ = some (.int .u64 0) := (blk_cell BK248.out 0).trans rfl
   have hfs38 := blk_frozen BK248.out 0
   have hns38_0 := NB232_248.out
   have hns38_1 := NB233_248.out
   have hns38_2 := NB234_248.out
   have hns38_3 := NB235_248.out
   have hns38_4 := NB241_248.out
   have hns38_5 := NB242_248.out
   have hns38_6 := NB247_248.out
   have hms38_0 := NB248_232.out
   have hms38_1 := NB248_233.out
   have hms38_2 := NB248_234.out
   have hms38_3 := NB248_235.out
   have hms38_4 := NB248_241.out
   have hms38_5 := NB248_242.out
   have hms38_6 := NB248_247.out
   have hs39 : w35.cell? ⟨gb248, 1, none⟩ = some (.int .u64 0) := (blk_cell BK248.out 1).trans rfl
   have hfs39 := blk_frozen BK248.out 1
   have hns39_0 := NB232_248.out
   have hns39_1 := NB233_248.out
   have hns39_2 := NB234_248.out
   have hns39_3 := NB235_248.out
   have hns39_4 := NB241_248.out
   have hns39_5 := NB242_248.out
   have hns39_6 := NB247_248.out
   have hms39_0 := NB248_232.out
   have hms39_1 := NB248_233.out
   have hms39_2 := NB248_234.out
   have hms39_3 := NB248_235.out
   have hms39_4 := NB248_241.out
   have hms39_5 := NB248_242.out
   have hms39_6 := NB248_247.out
   refine skip_ (w1 := ?_) (by rfl) rfl ?_ ?_
   rotate_left
   ·
    go_simp
    rfl
   refine hK.out _ _ ⟨((cell_far (p := ⟨gb248, _, none⟩) NB232_248.out _).trans (((cell_far (p := ⟨gb248, _, none⟩) NB232_248.out _).trans (hHeld.1)))), ((cell_far (p := ⟨gb248, _, none⟩) NB232_248.out _).trans (((cell_far (p := ⟨gb248, _, none⟩) NB232_248.out _).trans (hHeld.2.1)))), ((cell_far (p := ⟨gb248, _, none⟩) NB233_248.out _).trans (((cell_far (p := ⟨gb248, _, none⟩) NB233_248.out _).trans (hHeld.2.2.1)))), ((cell_far (p := ⟨gb248, _, none⟩) NB233_248.out _).trans (((cell_far (p := ⟨gb248, _, none⟩) NB233_248.out _).trans (hHeld.2.2.2.1)))), ((cell_far (p := ⟨gb248, _, none⟩) NB241_248.out _).trans (((cell_far (p := ⟨gb248, _, none⟩) NB241_248.out _).trans (hHeld.2.2.2.2.1)))), ((cell_far (p := ⟨gb248, _, none⟩) NB241_248.out _).trans (((cell_far (p := ⟨gb248, _, none⟩) NB241_248.out _).trans (hHeld.2.2.2.2.2.1)))), ((cell_far (p := ⟨gb248, _, none⟩) NB242_248.out _).trans (((cell_far (p := ⟨gb248, _, none⟩) NB242_248.out _).trans (hHeld.2.2.2.2.2.2.1)))), ((cell_far (p := ⟨gb248, _, none⟩) NB242_248.out _).trans (((cell_far (p := ⟨gb248, _, none⟩) NB242_248.out _).trans (hHeld.2.2.2.2.2.2.2))))⟩ (fun hHeld => ?_)
   clear hK K
   refine done_ (done_of HT_.out (by kernel_rfl)) ?_
   have hnb40 := NB248_232.out
   have hnc40 := NB232_248.out
   have hnb41 := NB248_233.out
   have hnc41 := NB233_248.out
   have hnb42 := NB248_234.out
   have hnc42 := NB234_248.out
   have hnb43 := NB248_235.out
   have hnc43 := NB235_248.out
   have hnb44 := NB248_241.out
   have hnc44 := NB241_248.out
   have hnb45 := NB248_242.out
   have hnc45 := NB242_248.out
   have hnb46 := NB248_247.out
   have hnc46 := NB247_248.out
   have hcz47_0 : w35.cell? ⟨gb248, 0, none⟩ = some (.int .u64 0) := (blk_cell BK248.out 0).trans rfl
   have hcz47_1 : w35.cell? ⟨gb248, 1, none⟩ = some (.int .u64 0) := (blk_cell BK248.out 1).trans rfl
   have hfz47_0 := blk_frozen BK248.out 0
   have hfz47_1 := blk_frozen BK248.out 1
   have hnb48 := NB247_232.out
   have hnc48 := NB232_247.out
   have hnb49 := NB247_233.out
   have hnc49 := NB233_247.out
   have hnb50 := NB247_234.out
   have hnc50 := NB234_247.out
   have hnb51 := NB247_235.out
   have hnc51 := NB235_247.out
   have hnb52 := NB247_241.out
   have hnc52 := NB241_247.out
   have hnb53 := NB247_242.out
   have hnc53 := NB242_247.out
   have hcz54_0 : w35.cell? ⟨gb247, 0, none⟩ = some (.int .u64 0) := (blk_cell BK247.out 0).trans rfl
   have hcz54_1 : w35.cell? ⟨gb247, 1, none⟩ = some (.int .u64 0) := (blk_cell BK247.out 1).trans rfl
   have hfz54_0 := blk_frozen BK247.out 0
   have hfz54_1 := blk_frozen BK247.out 1
   try go_wp2
   go_ret
   exact ⟨by first | rfl | (simp [errW_none, errW_some] <;> rfl) | (simp [*, errW_none, errW_some] <;> rfl), by repeat (first | (with_reducible first | exact HB.out | apply below_alloc | apply pw_below_drewN | apply below_drew1 | refine below_set ?_ GE232.out | refine below_set ?_ GE233.out | refine below_set ?_ GE234.out | refine below_set ?_ GE235.out | refine below_set ?_ GE241.out | refine below_set ?_ GE242.out | refine below_set ?_ GE247.out | refine below_set ?_ GE248.out) | exact HB.out)⟩
  ·
   rw [if_neg c13] at H
   have c13b0 : decide (t245 ≤ t243) = false := decide_eq_false c13
   clear c13
   exact absurd ((Option.some.inj H).trans hr_.out) (by decide)
 ·
  replace c8 := Bool.eq_false_iff.mpr c8
  subst c8
  have H1 : (some false) = some r := by rw [if_neg (show ¬ (false = true) by decide)] at H; exact H
  clear H
  have H := H1
  clear H1
  exact absurd ((Option.some.inj H).trans hr_.out) (by decide)


end Go.Proofs.Ytidabafobpbniaa.P
