import Derived.Test.YtkindfbbklkjdaaGa
namespace Go.Proofs.Ytkindfbbklkjdaa.P
open Go.RowKit Go.Proofs.YtkindfbbklkjdaaW.PrintWords Go.Proofs.YtkindfbbklkjdaaW.PrintLast Go.Proofs.YtkindfbbklkjdaaW.PrintMore
set_option linter.unusedVariables false
set_option linter.unusedSimpArgs false

theorem blk_six {w : World} {g : Nat} {t : TypeId} {x0 x1 x2 x3 x4 x5 y0 y1 y2 y3 y4 y5 : Value} (h : w.heap[g]? = some (.cells #[x0, x1, x2, x3, x4, x5] t (0, 0))) :
    ((((((w.setCell ⟨g, 0, none⟩ y0).setCell ⟨g, 1, none⟩ y1).setCell ⟨g, 2, none⟩ y2).setCell ⟨g, 3, none⟩ y3).setCell ⟨g, 4, none⟩ y4).setCell ⟨g, 5, none⟩ y5).heap[g]? = some (.cells #[y0, y1, y2, y3, y4, y5] t (0, 0)) :=
  blk_set (blk_set (blk_set (blk_set (blk_set (blk_set h 0 y0) 1 y1) 2 y2) 3 y3) 4 y4) 5 y5

/-! ### fn: function 15 -/
set_option maxHeartbeats 8000000 in
set_option maxRecDepth 100000 in
theorem term_Arena_At.calls_in (base : Nat) (ok : Nat → Prop) (g : Nat) (l : List S32) (m : Int) (v : Value) (bm : Nat) (i : Int) (w : World) (h : ArenaAt w base ok g l m v bm) (p : 0 ≤ i) (q : i < l.length) :
    Calls Try.prog 15 #[.pointer (some ⟨g, 0, none⟩), .int .i64 i] w fun e w' => e = .returned (.tuple #[nodeV (rd_T32 l i), .bool true]) ∧ Below w.heap.size w w' := by
  obtain ⟨A, c, rfl⟩ := Kd.R_slice h.row
  have hu32 := Try.underlying32
  have c0 : decide (i < 0) = false := decide_eq_false (by omega)
  have c1 : decide ((l.length : Int) ≤ i) = false := decide_eq_false (by omega)
  go_enter Try.func15, Try.ntmps15
  go_wp2_with (first | ((with_reducible refine gate_dst (N := 4) rfl ?_); (try (refine gate_guard (by rfl) ?_; dsimp only)); refine box_event ?hg (N := 4) ?hd (cs := #[.int .i64 0, .int .i64 0, .int .u64 0, .int .i64 0, .int .i64 0, .int .i64 0]) (t := 32) ?hr ?_; (case hd => rfl); (case hg => rfl); (case hr => first | (go_simp; done) | (go_simp; rfl)); intro gb hg w1 hbox hb; have h1 := h.below hb; have h0 : w1.cell? ⟨g, 0, none⟩ = some (.slice A l.length c) := blk_cell h1.blk 0; have g0 := blk_frozen hbox 0; have g1 := blk_frozen hbox 1; have g2 := blk_frozen hbox 2; have g3 := blk_frozen hbox 3; have g4 := blk_frozen hbox 4; have g5 := blk_frozen hbox 5; have k0 := (blk_cell hbox 0).trans rfl; have k1 := (blk_cell hbox 1).trans rfl; have k2 := (blk_cell hbox 2).trans rfl; have k3 := (blk_cell hbox 3).trans rfl; have k4 := (blk_cell hbox 4).trans rfl; have k5 := (blk_cell hbox 5).trans rfl; (obtain ⟨ad, e, hx0, hx1, hx2, hx3, hx4, hx5⟩ := at_T32 (Kd.R_reads' h1.row).2.2 i p q); cases e; replace p := eq_true p; replace q := eq_true q; have hgl : w.heap.size ≤ gb := Nat.le_of_eq hg.symm; clear hg))
  refine bodyPost_ret (results_ct rfl _ _ gb 32 #[.int .i64 (rd_T32 l i).f0, .int .i64 (rd_T32 l i).f1, .int .u64 (rd_T32 l i).f2, .int .i64 (rd_T32 l i).f3.f0, .int .i64 (rd_T32 l i).f3.f1, .int .i64 (rd_T32 l i).f3.f2] (0, 0) _ rfl ?hb Try.underlying32 rfl (by kernel_rfl)) rfl ?_
  case hb =>
    exact blk_six hbox
  refine ⟨rfl, ?_⟩
  exact below_set (below_set (below_set (below_set (below_set (below_set hb hgl) hgl) hgl) hgl) hgl) hgl

set_option maxHeartbeats 8000000 in
set_option maxRecDepth 100000 in
theorem term_Arena_At.calls_out (base : Nat) (ok : Nat → Prop) (g : Nat) (l : List S32) (m : Int) (v : Value) (bm : Nat) (i : Int) (w : World) (h : ArenaAt w base ok g l m v bm) (p : ¬ (0 ≤ i ∧ i < l.length)) :
    Calls Try.prog 15 #[.pointer (some ⟨g, 0, none⟩), .int .i64 i] w fun e w' => e = .returned (.tuple #[nodeV z32, .bool false]) ∧ Below w.heap.size w w' := by
  obtain ⟨A, c, rfl⟩ := Kd.R_slice h.row
  have hu32 := Try.underlying32
  by_cases hi : i < 0
  · have c0 : decide (i < 0) = true := decide_eq_true hi
    go_enter Try.func15, Try.ntmps15
    go_wp2_with (first | ((with_reducible refine gate_dst (N := 4) rfl ?_); (try (refine gate_guard (by rfl) ?_; dsimp only)); refine box_event ?hg (N := 4) ?hd (cs := #[.int .i64 0, .int .i64 0, .int .u64 0, .int .i64 0, .int .i64 0, .int .i64 0]) (t := 32) ?hr ?_; (case hd => rfl); (case hg => rfl); (case hr => first | (go_simp; done) | (go_simp; rfl)); intro gb hg w1 hbox hb; have h1 := h.below hb; have h0 : w1.cell? ⟨g, 0, none⟩ = some (.slice A l.length c) := blk_cell h1.blk 0; have g0 := blk_frozen hbox 0; have g1 := blk_frozen hbox 1; have g2 := blk_frozen hbox 2; have g3 := blk_frozen hbox 3; have g4 := blk_frozen hbox 4; have g5 := blk_frozen hbox 5; have k0 := (blk_cell hbox 0).trans rfl; have k1 := (blk_cell hbox 1).trans rfl; have k2 := (blk_cell hbox 2).trans rfl; have k3 := (blk_cell hbox 3).trans rfl; have k4 := (blk_cell hbox 4).trans rfl; have k5 := (blk_cell hbox 5).trans rfl; have hgl : w.heap.size ≤ gb := Nat.le_of_eq hg.symm; clear hg))
    refine bodyPost_ret (results_ct rfl _ _ gb 32 #[.int .i64 0, .int .i64 0, .int .u64 0, .int .i64 0, .int .i64 0, .int .i64 0] (0, 0) _ rfl ?hb Try.underlying32 rfl (by kernel_rfl)) rfl ?_
    case hb =>
      exact blk_six hbox
    refine ⟨rfl, ?_⟩
    exact below_set (below_set (below_set (below_set (below_set (below_set hb hgl) hgl) hgl) hgl) hgl) hgl
  · have c0 : decide (i < 0) = false := decide_eq_false hi
    have c1 : decide ((l.length : Int) ≤ i) = true := decide_eq_true (by omega)
    go_enter Try.func15, Try.ntmps15
    go_wp2_with (first | ((with_reducible refine gate_dst (N := 4) rfl ?_); (try (refine gate_guard (by rfl) ?_; dsimp only)); refine box_event ?hg (N := 4) ?hd (cs := #[.int .i64 0, .int .i64 0, .int .u64 0, .int .i64 0, .int .i64 0, .int .i64 0]) (t := 32) ?hr ?_; (case hd => rfl); (case hg => rfl); (case hr => first | (go_simp; done) | (go_simp; rfl)); intro gb hg w1 hbox hb; have h1 := h.below hb; have h0 : w1.cell? ⟨g, 0, none⟩ = some (.slice A l.length c) := blk_cell h1.blk 0; have g0 := blk_frozen hbox 0; have g1 := blk_frozen hbox 1; have g2 := blk_frozen hbox 2; have g3 := blk_frozen hbox 3; have g4 := blk_frozen hbox 4; have g5 := blk_frozen hbox 5; have k0 := (blk_cell hbox 0).trans rfl; have k1 := (blk_cell hbox 1).trans rfl; have k2 := (blk_cell hbox 2).trans rfl; have k3 := (blk_cell hbox 3).trans rfl; have k4 := (blk_cell hbox 4).trans rfl; have k5 := (blk_cell hbox 5).trans rfl; have hgl : w.heap.size ≤ gb := Nat.le_of_eq hg.symm; clear hg))
    refine bodyPost_ret (results_ct rfl _ _ gb 32 #[.int .i64 0, .int .i64 0, .int .u64 0, .int .i64 0, .int .i64 0, .int .i64 0] (0, 0) _ rfl ?hb Try.underlying32 rfl (by kernel_rfl)) rfl ?_
    case hb =>
      exact blk_six hbox
    refine ⟨rfl, ?_⟩
    exact below_set (below_set (below_set (below_set (below_set (below_set hb hgl) hgl) hgl) hgl) hgl) hgl

end Go.Proofs.Ytkindfbbklkjdaa.P
