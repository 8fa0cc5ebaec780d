import Derived.Test.YtkindfbbklkjdaaGb
import Derived.Carry
namespace Go.Proofs.Ytkindfbbklkjdaa.P
open Go.RowKit Go.Proofs.YtkindfbbklkjdaaW.PrintWords Go.Proofs.YtkindfbbklkjdaaW.PrintLast Go.Proofs.YtkindfbbklkjdaaW.PrintMore
set_option linter.unusedVariables false
set_option linter.unusedSimpArgs false

/-! ### fn: function 10 -/
set_option maxHeartbeats 8000000 in
set_option maxRecDepth 100000 in
theorem term_New.calls_at (w : World) :
    Calls Try.prog 10 #[] w fun e w' => ∃ g v bm, e = .returned (.pointer (some ⟨g, 0, none⟩)) ∧ ArenaAt w' w.heap.size (fun k => w.heap.size ≤ k) g [] 0 v bm ∧ Below w.heap.size w w' := by
  have hmm := @run_makeMap Try.prog
  obtain ⟨bm, hbm⟩ : ∃ b, b = w.heap.size := ⟨_, rfl⟩
  go_enter Try.func10, Try.ntmps10
  go_wp2_with (first | ((with_reducible refine gate_dst (N := 3) rfl ?_); (try (refine gate_guard (by rfl) ?_; dsimp only)); refine box_event ?hg (N := 3) ?hd (cs := #[.slice none 0 0, .map (some bm), .int .i64 0]) (t := 59) ?hr ?_; (case hd => rfl); (case hg => rfl); (case hr => first | (go_simp; done) | (go_simp; rfl)); intro gb hg w1 hbox hb))
  go_ret
  have hsz : (w.alloc (.map #[] 0)).heap.size = w.heap.size + 1 := by simp
  have hm0 : (w.alloc (.map #[] 0)).heap[w.heap.size]? = some (.map #[] 0) := blk_new w _
  have hm1 := blk_below hm0 hb
  have hB : Below w.heap.size w w1 := below_then (below_alloc (Below.refl _ _) _) (by rw [hsz]; omega) hb
  rw [hsz] at hg
  subst hbm
  subst hg
  exact ⟨w.heap.size + 1, .slice none 0 0, w.heap.size, rfl, ⟨hbox, hm1, Kd.R_nil _ _ _ _ _, Nat.le_succ _, Nat.le_refl _, Nat.le_succ _, Nat.le_refl _, by simp, List.nodup_nil⟩, hB⟩
end Go.Proofs.Ytkindfbbklkjdaa.P
