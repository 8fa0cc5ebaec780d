/- span.added, and the spans of sums and differences by their ends (closures), by hand. -/
import Derived.Test.YtidabafobpbniaaPx2
import Derived.Test.YtidabafobpbniaaPx3
import Derived.Test.YtidabafobpbniaaPx18
import Derived.Laws.Externs
import Derived.Laws.EntriesVeiled
namespace Go.Proofs.Ytidabafobpbniaa.P
open Go.RowKit Go.Proofs.YtidabafobpbniaaW.PrintWords Go.Proofs.YtidabafobpbniaaW.PrintLast Go.Proofs.YtidabafobpbniaaW.PrintMore
set_option linter.unusedVariables false
set_option linter.unusedSimpArgs false

/-- Two numbers, and whether the width was left. -/
def span_added.f (w x y : Int) : Option (Int × Int) :=
  if 0 ≤ x ∧ 0 ≤ y then
    if 0 < (x + y) / 18446744073709551616 then (word_Cut.f w ((x + y) % 18446744073709551616)).bind fun s => some (s, 1)
    else (word_Mask.f w).bind fun m => if m < (x + y) % 18446744073709551616 then (word_Cut.f w ((x + y) % 18446744073709551616)).bind fun s => some (s, 1) else some ((x + y) % 18446744073709551616, 0)
  else none
set_option maxHeartbeats 1600000 in
theorem span_added.calls (w_ x y r0 r1 : Int) (w : World) (h : span_added.f w_ x y = some (r0, r1)) :
    Calls Try.prog 43 #[.int .i64 w_, .int .u64 x, .int .u64 y] w fun e w' => e = .returned (.tuple #[.int .u64 r0, .int .i64 r1]) ∧ Below w.heap.size w w' := by
  unfold span_added.f at h
  by_cases hp : 0 ≤ x ∧ 0 ≤ y
  case neg => rw [if_neg hp] at h; cases h
  rw [if_pos hp] at h
  have hadd : ∀ w : World, (callFunc 71 #[.int .u64 x, .int .u64 y, .int .u64 0]).run Try.prog w = .ok (.value (.tuple #[.int .u64 ((x + y) % 18446744073709551616), .int .u64 ((x + y) / 18446744073709551616)])) w := fun w => by
    rw [run_callFunc_extern Try.func71 (by kernel_rfl) (by kernel_rfl) (by kernel_rfl) (e := add64Entry) (by kernel_rfl), run_add64 x y 0 hp.1 hp.2 (by omega) (by omega)]
    simp only [Result.andThen, Int.add_zero]
  obtain ⟨s, hs⟩ : ∃ s, (x + y) % 18446744073709551616 = s := ⟨_, rfl⟩
  obtain ⟨c, hc⟩ : ∃ c, (x + y) / 18446744073709551616 = c := ⟨_, rfl⟩
  rw [hs, hc] at h
  simp only [hs, hc] at hadd
  have HB := Aside0.mk (Below.refl w.heap.size w)
  clear hs hc hp
  by_cases c1 : 0 < c
  · rw [if_pos c1] at h
    obtain ⟨t, a1, h⟩ := Option.bind_eq_some_iff.mp h
    have A1 := Aside0.mk a1
    simp only [Option.some.injEq, Prod.mk.injEq] at h
    obtain ⟨rfl, rfl⟩ := h
    have b1 : decide (0 < c) = true := decide_eq_true c1
    clear a1 c1
    go_enter Try.func43, Try.ntmps43
    go_wp2_with (go_at_call 12; (with_reducible refine (word_Cut.calls w_ s t _ A1.out).mono ?_); rintro e w1 ⟨rfl, hb⟩; have n0 := Aside0.mk (below_step HB.out hb); clear HB hb; have HB := n0; clear n0)
    go_ret2
    exact ⟨rfl, HB.out⟩
  · rw [if_neg c1] at h
    obtain ⟨m, a0, h⟩ := Option.bind_eq_some_iff.mp h
    have A0 := Aside0.mk a0
    have b1 : decide (0 < c) = false := decide_eq_false c1
    clear a0 c1
    by_cases c2 : m < s
    · rw [if_pos c2] at h
      obtain ⟨t, a1, h⟩ := Option.bind_eq_some_iff.mp h
      have A1 := Aside0.mk a1
      simp only [Option.some.injEq, Prod.mk.injEq] at h
      obtain ⟨rfl, rfl⟩ := h
      have b2 : decide (m < s) = true := decide_eq_true c2
      clear a1 c2
      go_enter Try.func43, Try.ntmps43
      go_wp2_with (first | (go_at_call 12; (with_reducible refine (word_Cut.calls w_ s t _ A1.out).mono ?_); rintro e w1 ⟨rfl, hb⟩; have n0 := Aside0.mk (below_step HB.out hb); clear HB hb; have HB := n0; clear n0) | (go_at_call 13; (with_reducible refine (word_Mask.calls w_ m _ A0.out).mono ?_); rintro e w1 ⟨rfl, hb⟩; have n0 := Aside0.mk (below_step HB.out hb); clear HB hb; have HB := n0; clear n0))
      go_ret2
      exact ⟨rfl, HB.out⟩
    · rw [if_neg c2] at h
      simp only [Option.some.injEq, Prod.mk.injEq] at h
      obtain ⟨rfl, rfl⟩ := h
      have b2 : decide (m < s) = false := decide_eq_false c2
      clear c2
      go_enter Try.func43, Try.ntmps43
      go_wp2_with (go_at_call 13; (with_reducible refine (word_Mask.calls w_ m _ A0.out).mono ?_); rintro e w1 ⟨rfl, hb⟩; have n0 := Aside0.mk (below_step HB.out hb); clear HB hb; have HB := n0; clear n0)
      go_ret2
      exact ⟨rfl, HB.out⟩

/-- What the closures of the table have captured. -/
structure TabSt (w w' : World) (b5 b6 b7 b8 : Nat) (w_ x0 x1 y0 y1 : Int) : Prop where
  h5 : w'.heap[b5]? = some (.cells #[.int .i64 w_] 3 (0, 0))
  h6 : w'.heap[b6]? = some (.cells #[.int .u64 x0, .int .u64 x1] 24 (0, 0))
  h7 : w'.heap[b7]? = some (.cells #[.int .u64 y0, .int .u64 y1] 24 (0, 0))
  h8 : w'.heap[b8]? = some (.cells #[.int .u64 0, .int .u64 0] 24 (0, 0))
  hb : Below w.heap.size w w'
  hg : w.heap.size ≤ b8
section
variable {w w' w'' : World} {b5 b6 b7 b8 : Nat} {w_ x0 x1 y0 y1 : Int}
theorem TabSt.below (s : TabSt w w' b5 b6 b7 b8 w_ x0 x1 y0 y1) (h : Below w'.heap.size w' w'') : TabSt w w'' b5 b6 b7 b8 w_ x0 x1 y0 y1 :=
  ⟨blk_below s.h5 h, blk_below s.h6 h, blk_below s.h7 h, blk_below s.h8 h, below_step s.hb h, s.hg⟩
theorem TabSt.c5 (s : TabSt w w' b5 b6 b7 b8 w_ x0 x1 y0 y1) : w'.cell? ⟨b5, 0, none⟩ = some (.int .i64 w_) := blk_cell s.h5 0
theorem TabSt.c60 (s : TabSt w w' b5 b6 b7 b8 w_ x0 x1 y0 y1) : w'.cell? ⟨b6, 0, none⟩ = some (.int .u64 x0) := blk_cell s.h6 0
theorem TabSt.c61 (s : TabSt w w' b5 b6 b7 b8 w_ x0 x1 y0 y1) : w'.cell? ⟨b6, 1, none⟩ = some (.int .u64 x1) := blk_cell s.h6 1
theorem TabSt.c70 (s : TabSt w w' b5 b6 b7 b8 w_ x0 x1 y0 y1) : w'.cell? ⟨b7, 0, none⟩ = some (.int .u64 y0) := blk_cell s.h7 0
theorem TabSt.c71 (s : TabSt w w' b5 b6 b7 b8 w_ x0 x1 y0 y1) : w'.cell? ⟨b7, 1, none⟩ = some (.int .u64 y1) := blk_cell s.h7 1
theorem TabSt.c80 (s : TabSt w w' b5 b6 b7 b8 w_ x0 x1 y0 y1) : w'.cell? ⟨b8, 0, none⟩ = some (.int .u64 0) := blk_cell s.h8 0
theorem TabSt.c81 (s : TabSt w w' b5 b6 b7 b8 w_ x0 x1 y0 y1) : w'.cell? ⟨b8, 1, none⟩ = some (.int .u64 0) := blk_cell s.h8 1
theorem TabSt.f80 (s : TabSt w w' b5 b6 b7 b8 w_ x0 x1 y0 y1) : w'.frozen? ⟨b8, 0, none⟩ = false := blk_frozen s.h8 0
theorem TabSt.f81 (s : TabSt w w' b5 b6 b7 b8 w_ x0 x1 y0 y1) : w'.frozen? ⟨b8, 1, none⟩ = false := blk_frozen s.h8 1
end
set_option maxHeartbeats 1600000 in
theorem span_table_1.calls {w0 : World} (w_ x0 x1 y0 y1 r0 r1 : Int) (b5 b6 b7 b8 : Nat) (w : World) (hs : TabSt w0 w b5 b6 b7 b8 w_ x0 x1 y0 y1) (h : span_added.f w_ x0 y0 = some (r0, r1)) :
    Calls Try.prog 42 #[.pointer (some ⟨b5, 0, none⟩), .pointer (some ⟨b6, 0, none⟩), .pointer (some ⟨b7, 0, none⟩)] w fun e w' => e = .returned (.tuple #[.int .u64 r0, .int .i64 r1]) ∧ Below w.heap.size w w' := by
  have HB := Aside0.mk (Below.refl w.heap.size w)
  have kc5 := hs.c5; have kc60 := hs.c60; have kc61 := hs.c61; have kc70 := hs.c70; have kc71 := hs.c71
  have A1 := Aside0.mk h
  clear hs h
  go_enter Try.func42, Try.ntmps42
  go_wp2_with (go_at_call 43; (with_reducible refine (span_added.calls w_ x0 y0 r0 r1 _ A1.out).mono ?_); rintro e w1 ⟨rfl, hb⟩; have n0 := Aside0.mk (below_step HB.out hb); clear HB hb; have HB := n0; clear n0)
  go_ret2
  exact ⟨rfl, HB.out⟩
set_option maxHeartbeats 1600000 in
theorem span_table_2.calls {w0 : World} (w_ x0 x1 y0 y1 r0 r1 : Int) (b5 b6 b7 b8 : Nat) (w : World) (hs : TabSt w0 w b5 b6 b7 b8 w_ x0 x1 y0 y1) (h : span_added.f w_ x1 y1 = some (r0, r1)) :
    Calls Try.prog 44 #[.pointer (some ⟨b5, 0, none⟩), .pointer (some ⟨b6, 0, none⟩), .pointer (some ⟨b7, 0, none⟩)] w fun e w' => e = .returned (.tuple #[.int .u64 r0, .int .i64 r1]) ∧ Below w.heap.size w w' := by
  have HB := Aside0.mk (Below.refl w.heap.size w)
  have kc5 := hs.c5; have kc60 := hs.c60; have kc61 := hs.c61; have kc70 := hs.c70; have kc71 := hs.c71
  have A1 := Aside0.mk h
  clear hs h
  go_enter Try.func44, Try.ntmps44
  go_wp2_with (go_at_call 43; (with_reducible refine (span_added.calls w_ x1 y1 r0 r1 _ A1.out).mono ?_); rintro e w1 ⟨rfl, hb⟩; have n0 := Aside0.mk (below_step HB.out hb); clear HB hb; have HB := n0; clear n0)
  go_ret2
  exact ⟨rfl, HB.out⟩
set_option maxHeartbeats 1600000 in
theorem span_table_3.calls {w0 : World} (w_ x0 x1 y0 y1 r0 r1 : Int) (b5 b6 b7 b8 : Nat) (w : World) (hs : TabSt w0 w b5 b6 b7 b8 w_ x0 x1 y0 y1) (h : span_taken.f w_ x0 y1 = some (r0, r1)) :
    Calls Try.prog 46 #[.pointer (some ⟨b5, 0, none⟩), .pointer (some ⟨b6, 0, none⟩), .pointer (some ⟨b7, 0, none⟩)] w fun e w' => e = .returned (.tuple #[.int .u64 r0, .int .i64 r1]) ∧ Below w.heap.size w w' := by
  have HB := Aside0.mk (Below.refl w.heap.size w)
  have kc5 := hs.c5; have kc60 := hs.c60; have kc61 := hs.c61; have kc70 := hs.c70; have kc71 := hs.c71
  have A1 := Aside0.mk h
  clear hs h
  go_enter Try.func46, Try.ntmps46
  go_wp2_with (go_at_call 47; (with_reducible refine (span_taken.calls w_ x0 y1 r0 r1 _ A1.out).mono ?_); rintro e w1 ⟨rfl, hb⟩; have n0 := Aside0.mk (below_step HB.out hb); clear HB hb; have HB := n0; clear n0)
  go_ret2
  exact ⟨rfl, HB.out⟩
set_option maxHeartbeats 1600000 in
theorem span_table_4.calls {w0 : World} (w_ x0 x1 y0 y1 r0 r1 : Int) (b5 b6 b7 b8 : Nat) (w : World) (hs : TabSt w0 w b5 b6 b7 b8 w_ x0 x1 y0 y1) (h : span_taken.f w_ x1 y0 = some (r0, r1)) :
    Calls Try.prog 48 #[.pointer (some ⟨b5, 0, none⟩), .pointer (some ⟨b6, 0, none⟩), .pointer (some ⟨b7, 0, none⟩)] w fun e w' => e = .returned (.tuple #[.int .u64 r0, .int .i64 r1]) ∧ Below w.heap.size w w' := by
  have HB := Aside0.mk (Below.refl w.heap.size w)
  have kc5 := hs.c5; have kc60 := hs.c60; have kc61 := hs.c61; have kc70 := hs.c70; have kc71 := hs.c71
  have A1 := Aside0.mk h
  clear hs h
  go_enter Try.func48, Try.ntmps48
  go_wp2_with (go_at_call 47; (with_reducible refine (span_taken.calls w_ x1 y0 r0 r1 _ A1.out).mono ?_); rintro e w1 ⟨rfl, hb⟩; have n0 := Aside0.mk (below_step HB.out hb); clear HB hb; have HB := n0; clear n0)
  go_ret2
  exact ⟨rfl, HB.out⟩

set_option maxHeartbeats 4000000 in
theorem span_both_add {w0 : World} (w_ x0 x1 y0 y1 r0 r1 s0 s1 t0 t1 : Int) (b5 b6 b7 b8 : Nat) (w : World) (hs : TabSt w0 w b5 b6 b7 b8 w_ x0 x1 y0 y1) (h0 : span_added.f w_ x0 y0 = some (r0, r1)) (h1 : span_added.f w_ x1 y1 = some (s0, s1)) (h2 : (if r1 = s1 then span_Right.f w_ r0 s0 else span_whole.f w_) = some (t0, t1)) :
    Calls Try.prog 45 #[.agg #[.func (.func 42) #[] #[.pointer (some ⟨b5, 0, none⟩), .pointer (some ⟨b6, 0, none⟩), .pointer (some ⟨b7, 0, none⟩)], .func (.func 44) #[] #[.pointer (some ⟨b5, 0, none⟩), .pointer (some ⟨b6, 0, none⟩), .pointer (some ⟨b7, 0, none⟩)]], .int .i64 w_] w fun e w' => e = .returned (.agg #[.int .u64 t0, .int .u64 t1]) ∧ Below w.heap.size w w' := by
  have HW := Aside0.mk (Below.refl w.heap.size w)
  have HS := Aside0.mk hs
  have A1 := Aside0.mk h0
  have A2 := Aside0.mk h1
  clear hs h0 h1
  by_cases c : r1 = s1
  · rw [if_pos c] at h2
    have cb : (r1 != s1) = false := bne_eq_false_iff_eq.mpr c
    clear c
    have n2 := Aside0.mk h2
    clear h2
    go_enter Try.func45, Try.ntmps45
    go_wp2_with (first
      | ((with_reducible refine gate_dst (N := 2) rfl ?_); (try (refine gate_guard (by rfl) ?_; dsimp only)); refine box_event ?hg (N := 2) ?hd (cs := #[.func (.func 42) #[] #[.pointer (some ⟨b5, 0, none⟩), .pointer (some ⟨b6, 0, none⟩), .pointer (some ⟨b7, 0, none⟩)], .func (.func 44) #[] #[.pointer (some ⟨b5, 0, none⟩), .pointer (some ⟨b6, 0, none⟩), .pointer (some ⟨b7, 0, none⟩)]]) (t := 57) ?hr ?_; (case hd => rfl); (case hg => rfl); (case hr => first | (go_simp; done) | (go_simp; rfl)); intro gb2 hg wb2 hbox hb; have m0 := Aside0.mk (HS.out.below hb); have m2 := Aside0.mk (below_step HW.out hb); have BK2 := Aside0.mk hbox; clear HS HW hb hg hbox; have HS := m0; have HW := m2; clear m0 m2)
      | ((with_reducible refine gate_dst (N := 4) rfl ?_); (try (refine gate_guard (by rfl) ?_; dsimp only)); refine box_event ?hg (N := 4) ?hd (cs := #[.int .u64 0, .int .u64 0]) (t := 24) ?hr ?_; (case hd => rfl); (case hg => rfl); (case hr => first | (go_simp; done) | (go_simp; rfl)); intro gb4 hg wb4 hbox hb; have HG4 := Aside0.mk (show w.heap.size ≤ gb4 by rw [hg]; exact below_size HW.out); have m0 := Aside0.mk (HS.out.below hb); have m1 := Aside0.mk (blk_below BK2.out hb); have m2 := Aside0.mk (below_step HW.out hb); have BK4 := Aside0.mk hbox; clear HS BK2 HW hb hg hbox; have HS := m0; have BK2 := m1; have HW := m2; clear m0 m1 m2; have e0 := (blk_cell BK2.out 0).trans rfl; have e1 := (blk_cell BK2.out 1).trans rfl)
      | (go_at_call 42; (with_reducible refine (span_table_1.calls w_ x0 x1 y0 y1 r0 r1 b5 b6 b7 b8 _ HS.out A1.out).mono ?_); rintro e w1 ⟨rfl, hb⟩; have m0 := Aside0.mk (HS.out.below hb); have m1 := Aside0.mk (blk_below BK2.out hb); have m2 := Aside0.mk (below_step HW.out hb); have m3 := Aside0.mk (blk_below BK4.out hb); clear HS BK2 HW BK4 hb; (try clear e0 e1); have HS := m0; have BK2 := m1; have HW := m2; have BK4 := m3; clear m0 m1 m2 m3; have e0 := (blk_cell BK2.out 0).trans rfl; have e1 := (blk_cell BK2.out 1).trans rfl)
      | (go_at_call 44; (with_reducible refine (span_table_2.calls w_ x0 x1 y0 y1 s0 s1 b5 b6 b7 b8 _ HS.out A2.out).mono ?_); rintro e w1 ⟨rfl, hb⟩; have m0 := Aside0.mk (HS.out.below hb); have m1 := Aside0.mk (blk_below BK2.out hb); have m2 := Aside0.mk (below_step HW.out hb); have m3 := Aside0.mk (blk_below BK4.out hb); clear HS BK2 HW BK4 hb; (try clear e0 e1); have HS := m0; have BK2 := m1; have HW := m2; have BK4 := m3; clear m0 m1 m2 m3; have e0 := (blk_cell BK2.out 0).trans rfl; have e1 := (blk_cell BK2.out 1).trans rfl)
      | (go_at_call 14; (with_reducible refine (span_Right.calls w_ r0 s0 t0 t1 _ n2.out).mono ?_); rintro e w1 ⟨rfl, hb⟩; have m0 := Aside0.mk (HS.out.below hb); have m1 := Aside0.mk (blk_below BK2.out hb); have m2 := Aside0.mk (below_step HW.out hb); have m3 := Aside0.mk (blk_below BK4.out hb); clear HS BK2 HW BK4 hb; (try clear e0 e1); have HS := m0; have BK2 := m1; have HW := m2; have BK4 := m3; clear m0 m1 m2 m3; have e0 := (blk_cell BK2.out 0).trans rfl; have e1 := (blk_cell BK2.out 1).trans rfl; have q0 := (blk_cell BK4.out 0).trans rfl; have q1 := (blk_cell BK4.out 1).trans rfl; have f0 := blk_frozen BK4.out 0; have f1 := blk_frozen BK4.out 1))
    refine bodyPost_ret (results_cell_row rfl _ _ gb4 24 #[.int .u64 t0, .int .u64 t1] (0, 0) _ rfl (by refine blk_put (cs := #[.int .u64 t0, .int .u64 0]) ?_ 1 _ rfl; refine blk_put (cs := #[.int .u64 0, .int .u64 0]) ?_ 0 _ rfl; exact BK4.out) Try.underlying24 rfl (by kernel_rfl)) rfl ?_
    exact ⟨rfl, below_set (below_set HW.out HG4.out) HG4.out⟩
  · rw [if_neg c] at h2
    have cb : (r1 != s1) = true := bne_iff_ne.mpr c
    clear c
    have n2 := Aside0.mk h2
    clear h2
    go_enter Try.func45, Try.ntmps45
    go_wp2_with (first
      | ((with_reducible refine gate_dst (N := 2) rfl ?_); (try (refine gate_guard (by rfl) ?_; dsimp only)); refine box_event ?hg (N := 2) ?hd (cs := #[.func (.func 42) #[] #[.pointer (some ⟨b5, 0, none⟩), .pointer (some ⟨b6, 0, none⟩), .pointer (some ⟨b7, 0, none⟩)], .func (.func 44) #[] #[.pointer (some ⟨b5, 0, none⟩), .pointer (some ⟨b6, 0, none⟩), .pointer (some ⟨b7, 0, none⟩)]]) (t := 57) ?hr ?_; (case hd => rfl); (case hg => rfl); (case hr => first | (go_simp; done) | (go_simp; rfl)); intro gb2 hg wb2 hbox hb; have m0 := Aside0.mk (HS.out.below hb); have m2 := Aside0.mk (below_step HW.out hb); have BK2 := Aside0.mk hbox; clear HS HW hb hg hbox; have HS := m0; have HW := m2; clear m0 m2)
      | ((with_reducible refine gate_dst (N := 4) rfl ?_); (try (refine gate_guard (by rfl) ?_; dsimp only)); refine box_event ?hg (N := 4) ?hd (cs := #[.int .u64 0, .int .u64 0]) (t := 24) ?hr ?_; (case hd => rfl); (case hg => rfl); (case hr => first | (go_simp; done) | (go_simp; rfl)); intro gb4 hg wb4 hbox hb; have HG4 := Aside0.mk (show w.heap.size ≤ gb4 by rw [hg]; exact below_size HW.out); have m0 := Aside0.mk (HS.out.below hb); have m1 := Aside0.mk (blk_below BK2.out hb); have m2 := Aside0.mk (below_step HW.out hb); have BK4 := Aside0.mk hbox; clear HS BK2 HW hb hg hbox; have HS := m0; have BK2 := m1; have HW := m2; clear m0 m1 m2; have e0 := (blk_cell BK2.out 0).trans rfl; have e1 := (blk_cell BK2.out 1).trans rfl)
      | (go_at_call 42; (with_reducible refine (span_table_1.calls w_ x0 x1 y0 y1 r0 r1 b5 b6 b7 b8 _ HS.out A1.out).mono ?_); rintro e w1 ⟨rfl, hb⟩; have m0 := Aside0.mk (HS.out.below hb); have m1 := Aside0.mk (blk_below BK2.out hb); have m2 := Aside0.mk (below_step HW.out hb); have m3 := Aside0.mk (blk_below BK4.out hb); clear HS BK2 HW BK4 hb; (try clear e0 e1); have HS := m0; have BK2 := m1; have HW := m2; have BK4 := m3; clear m0 m1 m2 m3; have e0 := (blk_cell BK2.out 0).trans rfl; have e1 := (blk_cell BK2.out 1).trans rfl)
      | (go_at_call 44; (with_reducible refine (span_table_2.calls w_ x0 x1 y0 y1 s0 s1 b5 b6 b7 b8 _ HS.out A2.out).mono ?_); rintro e w1 ⟨rfl, hb⟩; have m0 := Aside0.mk (HS.out.below hb); have m1 := Aside0.mk (blk_below BK2.out hb); have m2 := Aside0.mk (below_step HW.out hb); have m3 := Aside0.mk (blk_below BK4.out hb); clear HS BK2 HW BK4 hb; (try clear e0 e1); have HS := m0; have BK2 := m1; have HW := m2; have BK4 := m3; clear m0 m1 m2 m3; have e0 := (blk_cell BK2.out 0).trans rfl; have e1 := (blk_cell BK2.out 1).trans rfl)
      | (go_at_call 32; (with_reducible refine (span_whole.calls w_  t0 t1 _ n2.out).mono ?_); rintro e w1 ⟨rfl, hb⟩; have m0 := Aside0.mk (HS.out.below hb); have m1 := Aside0.mk (blk_below BK2.out hb); have m2 := Aside0.mk (below_step HW.out hb); have m3 := Aside0.mk (blk_below BK4.out hb); clear HS BK2 HW BK4 hb; (try clear e0 e1); have HS := m0; have BK2 := m1; have HW := m2; have BK4 := m3; clear m0 m1 m2 m3; have e0 := (blk_cell BK2.out 0).trans rfl; have e1 := (blk_cell BK2.out 1).trans rfl; have q0 := (blk_cell BK4.out 0).trans rfl; have q1 := (blk_cell BK4.out 1).trans rfl; have f0 := blk_frozen BK4.out 0; have f1 := blk_frozen BK4.out 1))
    refine bodyPost_ret (results_cell_row rfl _ _ gb4 24 #[.int .u64 t0, .int .u64 t1] (0, 0) _ rfl (by refine blk_put (cs := #[.int .u64 t0, .int .u64 0]) ?_ 1 _ rfl; refine blk_put (cs := #[.int .u64 0, .int .u64 0]) ?_ 0 _ rfl; exact BK4.out) Try.underlying24 rfl (by kernel_rfl)) rfl ?_
    exact ⟨rfl, below_set (below_set HW.out HG4.out) HG4.out⟩
set_option maxHeartbeats 4000000 in
theorem span_both_take {w0 : World} (w_ x0 x1 y0 y1 r0 r1 s0 s1 t0 t1 : Int) (b5 b6 b7 b8 : Nat) (w : World) (hs : TabSt w0 w b5 b6 b7 b8 w_ x0 x1 y0 y1) (h0 : span_taken.f w_ x0 y1 = some (r0, r1)) (h1 : span_taken.f w_ x1 y0 = some (s0, s1)) (h2 : (if r1 = s1 then span_Right.f w_ r0 s0 else span_whole.f w_) = some (t0, t1)) :
    Calls Try.prog 45 #[.agg #[.func (.func 46) #[] #[.pointer (some ⟨b5, 0, none⟩), .pointer (some ⟨b6, 0, none⟩), .pointer (some ⟨b7, 0, none⟩)], .func (.func 48) #[] #[.pointer (some ⟨b5, 0, none⟩), .pointer (some ⟨b6, 0, none⟩), .pointer (some ⟨b7, 0, none⟩)]], .int .i64 w_] w fun e w' => e = .returned (.agg #[.int .u64 t0, .int .u64 t1]) ∧ Below w.heap.size w w' := by
  have HW := Aside0.mk (Below.refl w.heap.size w)
  have HS := Aside0.mk hs
  have A1 := Aside0.mk h0
  have A2 := Aside0.mk h1
  clear hs h0 h1
  by_cases c : r1 = s1
  · rw [if_pos c] at h2
    have cb : (r1 != s1) = false := bne_eq_false_iff_eq.mpr c
    clear c
    have n2 := Aside0.mk h2
    clear h2
    go_enter Try.func45, Try.ntmps45
    go_wp2_with (first
      | ((with_reducible refine gate_dst (N := 2) rfl ?_); (try (refine gate_guard (by rfl) ?_; dsimp only)); refine box_event ?hg (N := 2) ?hd (cs := #[.func (.func 46) #[] #[.pointer (some ⟨b5, 0, none⟩), .pointer (some ⟨b6, 0, none⟩), .pointer (some ⟨b7, 0, none⟩)], .func (.func 48) #[] #[.pointer (some ⟨b5, 0, none⟩), .pointer (some ⟨b6, 0, none⟩), .pointer (some ⟨b7, 0, none⟩)]]) (t := 57) ?hr ?_; (case hd => rfl); (case hg => rfl); (case hr => first | (go_simp; done) | (go_simp; rfl)); intro gb2 hg wb2 hbox hb; have m0 := Aside0.mk (HS.out.below hb); have m2 := Aside0.mk (below_step HW.out hb); have BK2 := Aside0.mk hbox; clear HS HW hb hg hbox; have HS := m0; have HW := m2; clear m0 m2)
      | ((with_reducible refine gate_dst (N := 4) rfl ?_); (try (refine gate_guard (by rfl) ?_; dsimp only)); refine box_event ?hg (N := 4) ?hd (cs := #[.int .u64 0, .int .u64 0]) (t := 24) ?hr ?_; (case hd => rfl); (case hg => rfl); (case hr => first | (go_simp; done) | (go_simp; rfl)); intro gb4 hg wb4 hbox hb; have HG4 := Aside0.mk (show w.heap.size ≤ gb4 by rw [hg]; exact below_size HW.out); have m0 := Aside0.mk (HS.out.below hb); have m1 := Aside0.mk (blk_below BK2.out hb); have m2 := Aside0.mk (below_step HW.out hb); have BK4 := Aside0.mk hbox; clear HS BK2 HW hb hg hbox; have HS := m0; have BK2 := m1; have HW := m2; clear m0 m1 m2; have e0 := (blk_cell BK2.out 0).trans rfl; have e1 := (blk_cell BK2.out 1).trans rfl)
      | (go_at_call 46; (with_reducible refine (span_table_3.calls w_ x0 x1 y0 y1 r0 r1 b5 b6 b7 b8 _ HS.out A1.out).mono ?_); rintro e w1 ⟨rfl, hb⟩; have m0 := Aside0.mk (HS.out.below hb); have m1 := Aside0.mk (blk_below BK2.out hb); have m2 := Aside0.mk (below_step HW.out hb); have m3 := Aside0.mk (blk_below BK4.out hb); clear HS BK2 HW BK4 hb; (try clear e0 e1); have HS := m0; have BK2 := m1; have HW := m2; have BK4 := m3; clear m0 m1 m2 m3; have e0 := (blk_cell BK2.out 0).trans rfl; have e1 := (blk_cell BK2.out 1).trans rfl)
      | (go_at_call 48; (with_reducible refine (span_table_4.calls w_ x0 x1 y0 y1 s0 s1 b5 b6 b7 b8 _ HS.out A2.out).mono ?_); rintro e w1 ⟨rfl, hb⟩; have m0 := Aside0.mk (HS.out.below hb); have m1 := Aside0.mk (blk_below BK2.out hb); have m2 := Aside0.mk (below_step HW.out hb); have m3 := Aside0.mk (blk_below BK4.out hb); clear HS BK2 HW BK4 hb; (try clear e0 e1); have HS := m0; have BK2 := m1; have HW := m2; have BK4 := m3; clear m0 m1 m2 m3; have e0 := (blk_cell BK2.out 0).trans rfl; have e1 := (blk_cell BK2.out 1).trans rfl)
      | (go_at_call 14; (with_reducible refine (span_Right.calls w_ r0 s0 t0 t1 _ n2.out).mono ?_); rintro e w1 ⟨rfl, hb⟩; have m0 := Aside0.mk (HS.out.below hb); have m1 := Aside0.mk (blk_below BK2.out hb); have m2 := Aside0.mk (below_step HW.out hb); have m3 := Aside0.mk (blk_below BK4.out hb); clear HS BK2 HW BK4 hb; (try clear e0 e1); have HS := m0; have BK2 := m1; have HW := m2; have BK4 := m3; clear m0 m1 m2 m3; have e0 := (blk_cell BK2.out 0).trans rfl; have e1 := (blk_cell BK2.out 1).trans rfl; have q0 := (blk_cell BK4.out 0).trans rfl; have q1 := (blk_cell BK4.out 1).trans rfl; have f0 := blk_frozen BK4.out 0; have f1 := blk_frozen BK4.out 1))
    refine bodyPost_ret (results_cell_row rfl _ _ gb4 24 #[.int .u64 t0, .int .u64 t1] (0, 0) _ rfl (by refine blk_put (cs := #[.int .u64 t0, .int .u64 0]) ?_ 1 _ rfl; refine blk_put (cs := #[.int .u64 0, .int .u64 0]) ?_ 0 _ rfl; exact BK4.out) Try.underlying24 rfl (by kernel_rfl)) rfl ?_
    exact ⟨rfl, below_set (below_set HW.out HG4.out) HG4.out⟩
  · rw [if_neg c] at h2
    have cb : (r1 != s1) = true := bne_iff_ne.mpr c
    clear c
    have n2 := Aside0.mk h2
    clear h2
    go_enter Try.func45, Try.ntmps45
    go_wp2_with (first
      | ((with_reducible refine gate_dst (N := 2) rfl ?_); (try (refine gate_guard (by rfl) ?_; dsimp only)); refine box_event ?hg (N := 2) ?hd (cs := #[.func (.func 46) #[] #[.pointer (some ⟨b5, 0, none⟩), .pointer (some ⟨b6, 0, none⟩), .pointer (some ⟨b7, 0, none⟩)], .func (.func 48) #[] #[.pointer (some ⟨b5, 0, none⟩), .pointer (some ⟨b6, 0, none⟩), .pointer (some ⟨b7, 0, none⟩)]]) (t := 57) ?hr ?_; (case hd => rfl); (case hg => rfl); (case hr => first | (go_simp; done) | (go_simp; rfl)); intro gb2 hg wb2 hbox hb; have m0 := Aside0.mk (HS.out.below hb); have m2 := Aside0.mk (below_step HW.out hb); have BK2 := Aside0.mk hbox; clear HS HW hb hg hbox; have HS := m0; have HW := m2; clear m0 m2)
      | ((with_reducible refine gate_dst (N := 4) rfl ?_); (try (refine gate_guard (by rfl) ?_; dsimp only)); refine box_event ?hg (N := 4) ?hd (cs := #[.int .u64 0, .int .u64 0]) (t := 24) ?hr ?_; (case hd => rfl); (case hg => rfl); (case hr => first | (go_simp; done) | (go_simp; rfl)); intro gb4 hg wb4 hbox hb; have HG4 := Aside0.mk (show w.heap.size ≤ gb4 by rw [hg]; exact below_size HW.out); have m0 := Aside0.mk (HS.out.below hb); have m1 := Aside0.mk (blk_below BK2.out hb); have m2 := Aside0.mk (below_step HW.out hb); have BK4 := Aside0.mk hbox; clear HS BK2 HW hb hg hbox; have HS := m0; have BK2 := m1; have HW := m2; clear m0 m1 m2; have e0 := (blk_cell BK2.out 0).trans rfl; have e1 := (blk_cell BK2.out 1).trans rfl)
      | (go_at_call 46; (with_reducible refine (span_table_3.calls w_ x0 x1 y0 y1 r0 r1 b5 b6 b7 b8 _ HS.out A1.out).mono ?_); rintro e w1 ⟨rfl, hb⟩; have m0 := Aside0.mk (HS.out.below hb); have m1 := Aside0.mk (blk_below BK2.out hb); have m2 := Aside0.mk (below_step HW.out hb); have m3 := Aside0.mk (blk_below BK4.out hb); clear HS BK2 HW BK4 hb; (try clear e0 e1); have HS := m0; have BK2 := m1; have HW := m2; have BK4 := m3; clear m0 m1 m2 m3; have e0 := (blk_cell BK2.out 0).trans rfl; have e1 := (blk_cell BK2.out 1).trans rfl)
      | (go_at_call 48; (with_reducible refine (span_table_4.calls w_ x0 x1 y0 y1 s0 s1 b5 b6 b7 b8 _ HS.out A2.out).mono ?_); rintro e w1 ⟨rfl, hb⟩; have m0 := Aside0.mk (HS.out.below hb); have m1 := Aside0.mk (blk_below BK2.out hb); have m2 := Aside0.mk (below_step HW.out hb); have m3 := Aside0.mk (blk_below BK4.out hb); clear HS BK2 HW BK4 hb; (try clear e0 e1); have HS := m0; have BK2 := m1; have HW := m2; have BK4 := m3; clear m0 m1 m2 m3; have e0 := (blk_cell BK2.out 0).trans rfl; have e1 := (blk_cell BK2.out 1).trans rfl)
      | (go_at_call 32; (with_reducible refine (span_whole.calls w_  t0 t1 _ n2.out).mono ?_); rintro e w1 ⟨rfl, hb⟩; have m0 := Aside0.mk (HS.out.below hb); have m1 := Aside0.mk (blk_below BK2.out hb); have m2 := Aside0.mk (below_step HW.out hb); have m3 := Aside0.mk (blk_below BK4.out hb); clear HS BK2 HW BK4 hb; (try clear e0 e1); have HS := m0; have BK2 := m1; have HW := m2; have BK4 := m3; clear m0 m1 m2 m3; have e0 := (blk_cell BK2.out 0).trans rfl; have e1 := (blk_cell BK2.out 1).trans rfl; have q0 := (blk_cell BK4.out 0).trans rfl; have q1 := (blk_cell BK4.out 1).trans rfl; have f0 := blk_frozen BK4.out 0; have f1 := blk_frozen BK4.out 1))
    refine bodyPost_ret (results_cell_row rfl _ _ gb4 24 #[.int .u64 t0, .int .u64 t1] (0, 0) _ rfl (by refine blk_put (cs := #[.int .u64 t0, .int .u64 0]) ?_ 1 _ rfl; refine blk_put (cs := #[.int .u64 0, .int .u64 0]) ?_ 0 _ rfl; exact BK4.out) Try.underlying24 rfl (by kernel_rfl)) rfl ?_
    exact ⟨rfl, below_set (below_set HW.out HG4.out) HG4.out⟩

/-- The table's row of operation 8. -/
def span_add.f (w x0 x1 y0 y1 : Int) : Option (Int × Int) :=
  (span_added.f w x0 y0).bind fun r => (span_added.f w x1 y1).bind fun s => if r.2 = s.2 then span_Right.f w r.1 s.1 else span_whole.f w
set_option maxHeartbeats 8000000 in
set_option maxRecDepth 100000 in
theorem span_table.op8 (w_ x0 x1 y0 y1 t0 t1 : Int) (w : World) (h : span_add.f w_ x0 x1 y0 y1 = some (t0, t1)) :
    Calls Try.prog 23 #[.int .i64 8, .int .i64 w_, .agg #[.int .u64 x0, .int .u64 x1], .agg #[.int .u64 y0, .int .u64 y1]] w fun e w' => e = .returned (.agg #[.int .u64 t0, .int .u64 t1]) ∧ Below w.heap.size w w' := by
  unfold span_add.f at h
  obtain ⟨⟨r0, r1⟩, a1, h⟩ := Option.bind_eq_some_iff.mp h
  obtain ⟨⟨s0, s1⟩, a2, a3⟩ := Option.bind_eq_some_iff.mp h
  have A1 := Aside0.mk a1
  have A2 := Aside0.mk a2
  have A3 := Aside0.mk a3
  have HB := Aside0.mk (Below.refl w.heap.size w)
  have hmf : ∀ (fn : Fn) (first cap : Array Value) (w : World), (Instr.makeFunc fn first cap).run Try.prog w = .ok (.func fn first cap) w := fun _ _ _ _ => rfl
  clear h a1 a2 a3
  go_enter Try.func23, Try.ntmps23
  go_wp2_with (first | ((with_reducible refine gate_dst (N := 5) rfl ?_); (try (refine gate_guard (by rfl) ?_; dsimp only)); refine box_event ?hg (N := 5) ?hd (cs := #[.int .i64 w_]) (t := 3) ?hr ?_; (case hd => rfl); (case hg => rfl); (case hr => first | (go_simp; done) | (go_simp; rfl)); intro gb5 hg wb5 hbox hb; have m0 := Aside0.mk (below_step HB.out hb); have BK5 := Aside0.mk hbox; clear HB hb hg hbox; have HB := m0; clear m0) | ((with_reducible refine gate_dst (N := 6) rfl ?_); (try (refine gate_guard (by rfl) ?_; dsimp only)); refine box_event ?hg (N := 6) ?hd (cs := #[.int .u64 x0, .int .u64 x1]) (t := 24) ?hr ?_; (case hd => rfl); (case hg => rfl); (case hr => first | (go_simp; done) | (go_simp; rfl)); intro gb6 hg wb6 hbox hb; have m0 := Aside0.mk (below_step HB.out hb); have m5 := Aside0.mk (blk_below BK5.out hb); have BK6 := Aside0.mk hbox; clear HB BK5 hb hg hbox; have HB := m0; have BK5 := m5; clear m0 m5) | ((with_reducible refine gate_dst (N := 7) rfl ?_); (try (refine gate_guard (by rfl) ?_; dsimp only)); refine box_event ?hg (N := 7) ?hd (cs := #[.int .u64 y0, .int .u64 y1]) (t := 24) ?hr ?_; (case hd => rfl); (case hg => rfl); (case hr => first | (go_simp; done) | (go_simp; rfl)); intro gb7 hg wb7 hbox hb; have m0 := Aside0.mk (below_step HB.out hb); have m5 := Aside0.mk (blk_below BK5.out hb); have m6 := Aside0.mk (blk_below BK6.out hb); have BK7 := Aside0.mk hbox; clear HB BK5 BK6 hb hg hbox; have HB := m0; have BK5 := m5; have BK6 := m6; clear m0 m5 m6) | ((with_reducible refine gate_dst (N := 8) rfl ?_); (try (refine gate_guard (by rfl) ?_; dsimp only)); refine box_event ?hg (N := 8) ?hd (cs := #[.int .u64 0, .int .u64 0]) (t := 24) ?hr ?_; (case hd => rfl); (case hg => rfl); (case hr => first | (go_simp; done) | (go_simp; rfl)); intro gb8 hg wb8 hbox hb; have HG8 := Aside0.mk (show w.heap.size ≤ gb8 by rw [hg]; exact below_size HB.out); have HS := Aside0.mk (TabSt.mk (blk_below BK5.out hb) (blk_below BK6.out hb) (blk_below BK7.out hb) hbox (below_step HB.out hb) HG8.out); clear HB BK5 BK6 BK7 HG8 hb hg hbox; have kc5 := HS.out.c5) | (go_at_call 45; (with_reducible refine (span_both_add w_ x0 x1 y0 y1 r0 r1 s0 s1 t0 t1 gb5 gb6 gb7 gb8 _ HS.out A1.out A2.out A3.out).mono ?_); rintro e w1 ⟨rfl, hb⟩; have m0 := Aside0.mk (HS.out.below hb); clear HS kc5 hb; have HS := m0; clear m0; have q0 := HS.out.c80; have q1 := HS.out.c81; have f0 := HS.out.f80; have f1 := HS.out.f81))
  refine bodyPost_ret (results_cell_row rfl _ _ gb8 24 #[.int .u64 t0, .int .u64 t1] (0, 0) _ rfl (by refine blk_put (cs := #[.int .u64 t0, .int .u64 0]) ?_ 1 _ rfl; refine blk_put (cs := #[.int .u64 0, .int .u64 0]) ?_ 0 _ rfl; exact HS.out.h8) Try.underlying24 rfl (by kernel_rfl)) rfl ?_
  exact ⟨rfl, below_set (below_set HS.out.hb HS.out.hg) HS.out.hg⟩
/-- The table's row of operation 9. -/
def span_take.f (w x0 x1 y0 y1 : Int) : Option (Int × Int) :=
  (span_taken.f w x0 y1).bind fun r => (span_taken.f w x1 y0).bind fun s => if r.2 = s.2 then span_Right.f w r.1 s.1 else span_whole.f w
set_option maxHeartbeats 8000000 in
set_option maxRecDepth 100000 in
theorem span_table.op9 (w_ x0 x1 y0 y1 t0 t1 : Int) (w : World) (h : span_take.f w_ x0 x1 y0 y1 = some (t0, t1)) :
    Calls Try.prog 23 #[.int .i64 9, .int .i64 w_, .agg #[.int .u64 x0, .int .u64 x1], .agg #[.int .u64 y0, .int .u64 y1]] w fun e w' => e = .returned (.agg #[.int .u64 t0, .int .u64 t1]) ∧ Below w.heap.size w w' := by
  unfold span_take.f at h
  obtain ⟨⟨r0, r1⟩, a1, h⟩ := Option.bind_eq_some_iff.mp h
  obtain ⟨⟨s0, s1⟩, a2, a3⟩ := Option.bind_eq_some_iff.mp h
  have A1 := Aside0.mk a1
  have A2 := Aside0.mk a2
  have A3 := Aside0.mk a3
  have HB := Aside0.mk (Below.refl w.heap.size w)
  have hmf : ∀ (fn : Fn) (first cap : Array Value) (w : World), (Instr.makeFunc fn first cap).run Try.prog w = .ok (.func fn first cap) w := fun _ _ _ _ => rfl
  clear h a1 a2 a3
  go_enter Try.func23, Try.ntmps23
  go_wp2_with (first | ((with_reducible refine gate_dst (N := 5) rfl ?_); (try (refine gate_guard (by rfl) ?_; dsimp only)); refine box_event ?hg (N := 5) ?hd (cs := #[.int .i64 w_]) (t := 3) ?hr ?_; (case hd => rfl); (case hg => rfl); (case hr => first | (go_simp; done) | (go_simp; rfl)); intro gb5 hg wb5 hbox hb; have m0 := Aside0.mk (below_step HB.out hb); have BK5 := Aside0.mk hbox; clear HB hb hg hbox; have HB := m0; clear m0) | ((with_reducible refine gate_dst (N := 6) rfl ?_); (try (refine gate_guard (by rfl) ?_; dsimp only)); refine box_event ?hg (N := 6) ?hd (cs := #[.int .u64 x0, .int .u64 x1]) (t := 24) ?hr ?_; (case hd => rfl); (case hg => rfl); (case hr => first | (go_simp; done) | (go_simp; rfl)); intro gb6 hg wb6 hbox hb; have m0 := Aside0.mk (below_step HB.out hb); have m5 := Aside0.mk (blk_below BK5.out hb); have BK6 := Aside0.mk hbox; clear HB BK5 hb hg hbox; have HB := m0; have BK5 := m5; clear m0 m5) | ((with_reducible refine gate_dst (N := 7) rfl ?_); (try (refine gate_guard (by rfl) ?_; dsimp only)); refine box_event ?hg (N := 7) ?hd (cs := #[.int .u64 y0, .int .u64 y1]) (t := 24) ?hr ?_; (case hd => rfl); (case hg => rfl); (case hr => first | (go_simp; done) | (go_simp; rfl)); intro gb7 hg wb7 hbox hb; have m0 := Aside0.mk (below_step HB.out hb); have m5 := Aside0.mk (blk_below BK5.out hb); have m6 := Aside0.mk (blk_below BK6.out hb); have BK7 := Aside0.mk hbox; clear HB BK5 BK6 hb hg hbox; have HB := m0; have BK5 := m5; have BK6 := m6; clear m0 m5 m6) | ((with_reducible refine gate_dst (N := 8) rfl ?_); (try (refine gate_guard (by rfl) ?_; dsimp only)); refine box_event ?hg (N := 8) ?hd (cs := #[.int .u64 0, .int .u64 0]) (t := 24) ?hr ?_; (case hd => rfl); (case hg => rfl); (case hr => first | (go_simp; done) | (go_simp; rfl)); intro gb8 hg wb8 hbox hb; have HG8 := Aside0.mk (show w.heap.size ≤ gb8 by rw [hg]; exact below_size HB.out); have HS := Aside0.mk (TabSt.mk (blk_below BK5.out hb) (blk_below BK6.out hb) (blk_below BK7.out hb) hbox (below_step HB.out hb) HG8.out); clear HB BK5 BK6 BK7 HG8 hb hg hbox; have kc5 := HS.out.c5) | (go_at_call 45; (with_reducible refine (span_both_take w_ x0 x1 y0 y1 r0 r1 s0 s1 t0 t1 gb5 gb6 gb7 gb8 _ HS.out A1.out A2.out A3.out).mono ?_); rintro e w1 ⟨rfl, hb⟩; have m0 := Aside0.mk (HS.out.below hb); clear HS kc5 hb; have HS := m0; clear m0; have q0 := HS.out.c80; have q1 := HS.out.c81; have f0 := HS.out.f80; have f1 := HS.out.f81))
  refine bodyPost_ret (results_cell_row rfl _ _ gb8 24 #[.int .u64 t0, .int .u64 t1] (0, 0) _ rfl (by refine blk_put (cs := #[.int .u64 t0, .int .u64 0]) ?_ 1 _ rfl; refine blk_put (cs := #[.int .u64 0, .int .u64 0]) ?_ 0 _ rfl; exact HS.out.h8) Try.underlying24 rfl (by kernel_rfl)) rfl ?_
  exact ⟨rfl, below_set (below_set HS.out.hb HS.out.hg) HS.out.hg⟩

end Go.Proofs.Ytidabafobpbniaa.P
