/- The arena, by hand: what its block holds; sync/atomic's numbers. -/
import Derived.Test.YtkindfbbklkjdaaPx0
import Derived.Laws.LoneSync
namespace Go.Proofs.Ytkindfbbklkjdaa.P
open Go.RowKit Go.Proofs.YtkindfbbklkjdaaW.PrintWords Go.Proofs.YtkindfbbklkjdaaW.PrintLast Go.Proofs.YtkindfbbklkjdaaW.PrintMore
set_option linter.unusedVariables false
set_option linter.unusedSimpArgs false

set_option maxHeartbeats 1600000 in
theorem atomic_add_calls (g i : Nat) (m : Int) (w : World) (h : w.cell? ⟨g, i, none⟩ = some (.int .i64 m)) (hz : w.frozen? ⟨g, i, none⟩ = false) :
    Calls Try.prog 25 #[.pointer (some ⟨g, i, none⟩), .int .i64 1] w fun e w' => e = .returned (.int .i64 (wrap64 (m + 1))) ∧ w' = w.setCell ⟨g, i, none⟩ (.int .i64 (wrap64 (m + 1))) := by
  have hl := run_call_add (P := Try.prog) Try.func32 (by kernel_rfl) (by kernel_rfl) (by kernel_rfl) .i64 (by kernel_rfl) (y := 1) (s := wrap64 (m + 1)) h hz (by simp [go_sem, i64_w])
  go_enter Try.func25, Try.ntmps25
  go_wp2
  go_ret
  exact ⟨rfl, rfl⟩

set_option maxHeartbeats 1600000 in
theorem atomic_load_calls (g i : Nat) (m : Int) (w : World) (h : w.cell? ⟨g, i, none⟩ = some (.int .i64 m)) :
    Calls Try.prog 29 #[.pointer (some ⟨g, i, none⟩)] w fun e w' => e = .returned (.int .i64 m) ∧ w' = w := by
  have hl := run_call_load (P := Try.prog) Try.func38 (by kernel_rfl) (by kernel_rfl) (by kernel_rfl) .i64 (by kernel_rfl) h
  go_enter Try.func29, Try.ntmps29
  go_wp2
  go_ret
  exact ⟨rfl, rfl⟩

/-! ### what an arena's block holds -/
def nodeV (n : S32) : Value := .agg #[.int .i64 n.f0, .int .i64 n.f1, .int .u64 n.f2, .int .i64 n.f3.f0, .int .i64 n.f3.f1, .int .i64 n.f3.f2]
def entriesFrom : Nat → List S32 → List MapEntry
  | _, [] => []
  | i, n :: r => ⟨nodeV n, .int .i64 i, i⟩ :: entriesFrom (i + 1) r
def entries (l : List S32) : Array MapEntry := (entriesFrom 0 l).toArray
def wf64 (x : Int) : Bool := (Lit.int .i64 x).wf
def wfu (x : Int) : Bool := (Lit.int .u64 x).wf
def okN (n : S32) : Bool := wf64 n.f0 && wf64 n.f1 && wfu n.f2 && wf64 n.f3.f0 && wf64 n.f3.f1 && wf64 n.f3.f2

theorem entriesFrom_append (i : Nat) (l m : List S32) : entriesFrom i (l ++ m) = entriesFrom i l ++ entriesFrom (i + l.length) m := by
  induction l generalizing i with
  | nil => simp [entriesFrom]
  | cons n r ih => simp only [List.cons_append, entriesFrom, ih, List.length_cons]; rw [show i + (r.length + 1) = i + 1 + r.length by omega]
theorem entries_push (l : List S32) (n : S32) : entries (l ++ [n]) = (entries l).push ⟨nodeV n, .int .i64 l.length, l.length⟩ := by
  unfold entries
  rw [entriesFrom_append]
  simp [entriesFrom]
theorem entriesFrom_get (i j : Nat) (l : List S32) : (entriesFrom i l)[j]? = l[j]?.map (fun n => ⟨nodeV n, .int .i64 ((i + j : Nat) : Int), i + j⟩) := by
  induction l generalizing i j with
  | nil => simp [entriesFrom]
  | cons n r ih =>
    cases j with
    | zero => simp [entriesFrom]
    | succ j => simp only [entriesFrom, List.getElem?_cons_succ, ih]; rw [show i + 1 + j = i + (j + 1) by omega]
theorem entriesFrom_mem (i : Nat) (l : List S32) (e : MapEntry) (h : e ∈ entriesFrom i l) : ∃ n ∈ l, e.key = nodeV n := by
  induction l generalizing i with
  | nil => simp [entriesFrom] at h
  | cons n r ih =>
    rcases List.mem_cons.1 h with rfl | h
    · exact ⟨n, by simp, rfl⟩
    · obtain ⟨m, hm, e'⟩ := ih _ h
      exact ⟨m, by simp [hm], e'⟩
theorem nodeV_inj {a b : S32} (h : nodeV a = nodeV b) : a = b := by
  obtain ⟨a0, a1, a2, a3, a4, a5⟩ := a
  obtain ⟨b0, b1, b2, b3, b4, b5⟩ := b
  unfold nodeV at h
  simp at h
  obtain ⟨rfl, rfl, rfl, rfl, rfl, rfl⟩ := h
  rfl

/-- An arena at block g: its nodes' row, its map, how often it was asked; all its blocks are 'ok', and lie from 'base' on. -/
structure ArenaAt (w : World) (base : Nat) (ok : Nat → Prop) (g : Nat) (l : List S32) (m : Int) (v : Value) (bm : Nat) : Prop where
  blk : w.heap[g]? = some (.cells #[v, .map (some bm), .int .i64 m] 59 (0, 0))
  mp : w.heap[bm]? = some (.map (entries l) l.length)
  row : Kd.R k32 32 w base (fun k => ok k) v l
  okg : ok g
  okm : ok bm
  leg : base ≤ g
  lem : base ≤ bm
  fit : ∀ n ∈ l, okN n = true
  dist : l.Nodup

theorem ArenaAt.kept {w w' : World} {base : Nat} {ok S : Nat → Prop} {g : Nat} {l : List S32} {m : Int} {v : Value} {bm : Nat} (h : ArenaAt w base ok g l m v bm) (hk : Kept w w' S) (hn : ∀ k, ok k → ¬ S k) : ArenaAt w' base ok g l m v bm :=
  ⟨(hk.2 g (blk_lt h.blk) (hn g h.okg)).trans h.blk, (hk.2 bm (blk_lt h.mp) (hn bm h.okm)).trans h.mp, Kd.R_kept h.row hk hn, h.okg, h.okm, h.leg, h.lem, h.fit, h.dist⟩
theorem ArenaAt.below {w w' : World} {base : Nat} {ok : Nat → Prop} {g : Nat} {l : List S32} {m : Int} {v : Value} {bm : Nat} (h : ArenaAt w base ok g l m v bm) (hb : Below w.heap.size w w') : ArenaAt w' base ok g l m v bm :=
  h.kept (Kept.below (Kept.refl w (fun _ => False)) hb) (fun _ _ h => h)
theorem ArenaAt.mono {w : World} {base : Nat} {ok ok' : Nat → Prop} {g : Nat} {l : List S32} {m : Int} {v : Value} {bm : Nat} (h : ArenaAt w base ok g l m v bm) (hn : ∀ k, ok k → ok' k) : ArenaAt w base ok' g l m v bm :=
  ⟨h.blk, h.mp, Kd.R_mono h.row hn, hn g h.okg, hn bm h.okm, h.leg, h.lem, h.fit, h.dist⟩
theorem ArenaAt.lower {w : World} {base base' : Nat} {ok : Nat → Prop} {g : Nat} {l : List S32} {m : Int} {v : Value} {bm : Nat} (h : ArenaAt w base ok g l m v bm) (hb : base' ≤ base) : ArenaAt w base' ok g l m v bm :=
  ⟨h.blk, h.mp, Kd.R_lower h.row hb, h.okg, h.okm, Nat.le_trans hb h.leg, Nat.le_trans hb h.lem, h.fit, h.dist⟩
theorem ArenaAt.drew {w : World} {base : Nat} {ok : Nat → Prop} {g : Nat} {l : List S32} {m : Int} {v : Value} {bm : Nat} (h : ArenaAt w base ok g l m v bm) : ArenaAt w.drew base ok g l m v bm := h.below (below_drew1 (Below.refl _ _))
theorem ArenaAt.drewN {w : World} {base : Nat} {ok : Nat → Prop} {g : Nat} {l : List S32} {m : Int} {v : Value} {bm : Nat} (h : ArenaAt w base ok g l m v bm) (n : Nat) : ArenaAt (w.drewN n) base ok g l m v bm := h.below (pw_below_drewN (Below.refl _ _) n)
theorem ArenaAt.alloc {w : World} {base : Nat} {ok : Nat → Prop} {g : Nat} {l : List S32} {m : Int} {v : Value} {bm : Nat} (h : ArenaAt w base ok g l m v bm) (o : Obj) : ArenaAt (w.alloc o) base ok g l m v bm := h.below (below_alloc (Below.refl _ _) o)

theorem ArenaAt.tight {w : World} {base : Nat} {ok : Nat → Prop} {g : Nat} {l : List S32} {m : Int} {v : Value} {bm : Nat} (h : ArenaAt w base ok g l m v bm) :
    ArenaAt w base (fun k => k = g ∨ k = bm ∨ some k = v.ownBlock) g l m v bm :=
  ⟨h.blk, h.mp, Kd.R_mono (Kd.R_tight rfl h.row) (fun k hk => .inr (.inr hk)), .inl rfl, .inr (.inl rfl), h.leg, h.lem, h.fit, h.dist⟩

/-! ### fn: function 13 -/
set_option maxHeartbeats 1600000 in
theorem term_Arena_Len.calls_at (base : Nat) (ok : Nat → Prop) (g : Nat) (l : List S32) (m : Int) (v : Value) (bm : Nat) (w : World) (h : ArenaAt w base ok g l m v bm) :
    Calls Try.prog 13 #[.pointer (some ⟨g, 0, none⟩)] w fun e w' => e = .returned (.int .i64 l.length) ∧ Drawn0 w w' := by
  obtain ⟨A, c, rfl⟩ := Kd.R_slice h.row
  have h0 : w.cell? ⟨g, 0, none⟩ = some (.slice A l.length c) := blk_cell h.blk 0
  go_enter Try.func13, Try.ntmps13
  go_wp2
  go_ret
  exact ⟨rfl, by repeat (first | exact Drawn0.refl _ | apply Drawn0.drew)⟩

/-! ### fn: function 14 -/
set_option maxHeartbeats 1600000 in
theorem term_Arena_Asked.calls_at (base : Nat) (ok : Nat → Prop) (g : Nat) (l : List S32) (m : Int) (v : Value) (bm : Nat) (w : World) (h : ArenaAt w base ok g l m v bm) :
    Calls Try.prog 14 #[.pointer (some ⟨g, 0, none⟩)] w fun e w' => e = .returned (.int .i64 m) ∧ Drawn0 w w' := by
  have h0 : w.cell? ⟨g, 2, none⟩ = some (.int .i64 m) := blk_cell h.blk 2
  go_enter Try.func14, Try.ntmps14
  go_wp2_with (first | (go_at_call 29; refine (atomic_load_calls g 2 m _ h0).mono ?_; rintro e w' ⟨rfl, rfl⟩))
  go_ret
  exact ⟨rfl, by repeat (first | exact Drawn0.refl _ | apply Drawn0.drew)⟩

end Go.Proofs.Ytkindfbbklkjdaa.P
