import Derived.Test.YtkindfbbklkjdaaGd
import Derived.Test.YtkindfbbklkjdaaPx8
namespace Go.Proofs.Ytkindfbbklkjdaa.P
open Go.RowKit Go.Proofs.YtkindfbbklkjdaaW.PrintWords Go.Proofs.YtkindfbbklkjdaaW.PrintLast Go.Proofs.YtkindfbbklkjdaaW.PrintMore
set_option linter.unusedVariables false
set_option linter.unusedSimpArgs false

theorem ne_of_typed {w : World} {a b : Nat} {o o' : Obj} (ha : w.heap[a]? = some o) (hb : w.heap[b]? = some o') (hne : o ≠ o') : a ≠ b := by
  rintro rfl
  rw [ha] at hb
  exact hne (Option.some.inj hb)

theorem ArenaAt.gm {w : World} {base : Nat} {ok : Nat → Prop} {g : Nat} {l : List S32} {m : Int} {v : Value} {bm : Nat} (h : ArenaAt w base ok g l m v bm) : g ≠ bm :=
  ne_of_typed h.blk h.mp (by simp)
theorem ArenaAt.gv {w : World} {base : Nat} {ok : Nat → Prop} {g : Nat} {l : List S32} {m : Int} {v : Value} {bm : Nat} (h : ArenaAt w base ok g l m v bm) : some g ≠ v.ownBlock := by
  intro e
  obtain ⟨cs, hc⟩ := Kd.R_typed h.row g e.symm
  rw [h.blk] at hc
  simp at hc
theorem ArenaAt.mv {w : World} {base : Nat} {ok : Nat → Prop} {g : Nat} {l : List S32} {m : Int} {v : Value} {bm : Nat} (h : ArenaAt w base ok g l m v bm) : some bm ≠ v.ownBlock := by
  intro e
  obtain ⟨cs, hc⟩ := Kd.R_typed h.row bm e.symm
  rw [h.mp] at hc
  simp at hc

theorem row_move {w w1 : World} {base : Nat} {ok : Nat → Prop} {v : Value} {l : List S32} (h : Kd.R k32 32 w base ok v l) (hm : ∀ k, some k = v.ownBlock → w1.heap[k]? = w.heap[k]?) : Kd.R k32 32 w1 base ok v l :=
  Kd.R_mono (Kd.R_move (Kd.R_tight rfl h) hm) (fun k hk => h.1 k hk.symm)

/-- A cell of the arena's own block is written. -/
theorem ArenaAt.asked {w : World} {base : Nat} {ok : Nat → Prop} {g : Nat} {l : List S32} {m : Int} (m' : Int) {v : Value} {bm : Nat} (h : ArenaAt w base ok g l m v bm) : ArenaAt (w.setCell ⟨g, 2, none⟩ (.int .i64 m')) base ok g l m' v bm :=
  ⟨blk_set h.blk 2 (.int .i64 m'), (Below.heap_setCell w ⟨g, 2, none⟩ _ bm h.gm.symm).trans h.mp,
    row_move h.row (fun k hk => Below.heap_setCell w ⟨g, 2, none⟩ _ k (fun e => h.gv (show some g = v.ownBlock from (show k = g from e) ▸ hk))), h.okg, h.okm, h.leg, h.lem, h.fit, h.dist⟩

deriving instance DecidableEq for S30
deriving instance DecidableEq for S32

/-! ### fn: function 11 -/
def term_Arena_Make.f (k : Nat) (l : List S32) (n : S32) : Option (List S32 × Int × Int) :=
  if okN n = true then
    if n ∈ l then some (l, (l.idxOf n : Nat), 0)
    else (term_right.f k n.f0 n.f1 n.f2 n.f3.f0 n.f3.f1 n.f3.f2 l).bind fun e =>
      if e = 0 then (if 65536 ≤ (l.length : Int) then some (l, 0, 10) else some (l ++ [n], l.length, 0)) else some (l, 0, e)
  else none

theorem term_Arena_Make.mono (l : List S32) (n : S32) (k : Nat) : LeO (term_Arena_Make.f k l n) (term_Arena_Make.f (k + 1) l n) := by
  unfold term_Arena_Make.f
  refine LeO.ite ?_ (LeO.none _)
  refine LeO.ite (LeO.refl _) (LeO.bind (term_right.mono _ _ _ _ _ _ _ _) (fun _ => LeO.refl _))

set_option maxHeartbeats 8000000 in
set_option maxRecDepth 100000 in
theorem term_Arena_Make.hit (base : Nat) (P : Nat → Prop) (g : Nat) (l : List S32) (m : Int) (v : Value) (bm : Nat) (n : S32) (w : World) (h : ArenaAt w base P g l m v bm) (hle : base ≤ w.heap.size) (hn : okN n = true) (hm : n ∈ l) :
    Calls Try.prog 11 #[.pointer (some ⟨g, 0, none⟩), nodeV n] w fun e w' => e = .returned (.tuple #[.int .i64 (l.idxOf n : Nat), .int .i64 0]) ∧ ArenaAt w' base P g l (wrap64 (m + 1)) v bm ∧ Below base w w' ∧ Kept w w' P := by
  obtain ⟨j, hj⟩ : ∃ j : Nat, l.idxOf n = j := ⟨_, rfl⟩
  rw [hj]
  go_enter Try.func11, Try.ntmps11
  unfold nodeV
  go_wp2_with (first
    | ((with_reducible refine gate_dst (N := 3) rfl ?_); (try (refine gate_guard (by rfl) ?_; dsimp only)); refine box_event ?hg (N := 3) ?hd (cs := #[.int .i64 n.f0, .int .i64 n.f1, .int .u64 n.f2, .int .i64 n.f3.f0, .int .i64 n.f3.f1, .int .i64 n.f3.f2]) (t := 32) ?hr ?_; (case hd => rfl); (case hg => rfl); (case hr => first | (go_simp; done) | (go_simp; rfl)); intro gb hg w1 hbox hb; have h1 := h.below hb; have hc2 : w1.cell? ⟨g, 2, none⟩ = some (.int .i64 m) := blk_cell h1.blk 2; have hz2 := blk_frozen h1.blk 2)
    | (go_at_call 25; refine (atomic_add_calls g 2 m _ hc2 hz2).mono ?_; rintro e w2 ⟨rfl, hw2_⟩; have HW2 := Aside0.mk hw2_; have HG := Aside0.mk hg; clear hw2_ hg))
  have hw2 := HW2.out
  have hg := HG.out
  subst hg
  have hgn : g ≠ w.heap.size := by have := blk_lt h.blk; omega
  have h2 : ArenaAt w2 base P g l (wrap64 (m + 1)) v bm := by rw [hw2]; exact h1.asked _
  have hbox2 : w2.heap[w.heap.size]? = some (.cells #[.int .i64 n.f0, .int .i64 n.f1, .int .u64 n.f2, .int .i64 n.f3.f0, .int .i64 n.f3.f1, .int .i64 n.f3.f2] 32 (0, 0)) := by rw [hw2]; exact (Below.heap_setCell w1 ⟨g, 2, none⟩ _ w.heap.size (Ne.symm hgn)).trans hbox
  have hB2 : Below base w w2 := by rw [hw2]; exact (hb.mono hle).setCell h.leg _
  have hK2 : Kept w w2 P := by rw [hw2]; exact Kept.setCell (Kept.below (Kept.refl w P) hb) (.inl h.okg) _
  clear hbox h1 hc2 hz2 hb hw2 HW2 HG
  have q1 : w2.cell? ⟨g, 1, none⟩ = some (.map (some bm)) := blk_cell h2.blk 1
  have k0 := (blk_cell hbox2 0).trans rfl
  have k1 := (blk_cell hbox2 1).trans rfl
  have k2 := (blk_cell hbox2 2).trans rfl
  have k3 := (blk_cell hbox2 3).trans rfl
  have k4 := (blk_cell hbox2 4).trans rfl
  have k5 := (blk_cell hbox2 5).trans rfl
  have hu32 := Try.underlying32
  have hl : ∀ d, (Instr.lookup 52 (.map (some bm)) (.agg #[.int .i64 n.f0, .int .i64 n.f1, .int .u64 n.f2, .int .i64 n.f3.f0, .int .i64 n.f3.f1, .int .i64 n.f3.f2]) true).run Try.prog (w2.drewN d) = .ok (.tuple #[.int .i64 (j : Int), .bool true]) (w2.drewN d) := by
    intro d
    have h3 := h2.drewN d
    rcases find_node (w2.drewN d) l h3.fit n hn with ⟨_, hno⟩ | ⟨i, hf, hi⟩
    · exact absurd hm hno
    · have e : j = i := by
        rw [← hj]
        have hlt := List.idxOf_lt_length_of_mem hm
        have e1 : l[l.idxOf n]? = some n := by rw [List.getElem?_eq_getElem hlt, List.getElem_idxOf hlt]
        exact (List.getElem?_inj hlt h3.dist).1 (e1.trans hi.symm)
      rw [e]
      exact look_hit _ bm l h3.mp n hn i hf
  clear hj
  go_quiet (fail)
  go_wp2
  go_ret2
  exact ⟨rfl, h2.drewN _, pw_below_drewN hB2 _, hK2⟩
end Go.Proofs.Ytkindfbbklkjdaa.P
