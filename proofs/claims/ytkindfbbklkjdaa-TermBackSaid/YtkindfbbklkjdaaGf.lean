import Derived.Test.YtkindfbbklkjdaaGe
namespace Go.Proofs.Ytkindfbbklkjdaa.P
open Go.RowKit Go.Proofs.YtkindfbbklkjdaaW.PrintWords Go.Proofs.YtkindfbbklkjdaaW.PrintLast Go.Proofs.YtkindfbbklkjdaaW.PrintMore
set_option linter.unusedVariables false
set_option linter.unusedSimpArgs false

set_option maxHeartbeats 8000000 in
set_option maxRecDepth 100000 in
theorem term_Arena_Make.refused (k : Nat) (base : Nat) (P : Nat → Prop) (g : Nat) (l : List S32) (m : Int) (v : Value) (bm : Nat) (n : S32) (e0 : Int) (w : World) (h : ArenaAt w base P g l m v bm) (hle : base ≤ w.heap.size) (hn : okN n = true) (hm : n ∉ l) (he : term_right.f k n.f0 n.f1 n.f2 n.f3.f0 n.f3.f1 n.f3.f2 l = some e0) (hr : e0 ≠ 0) :
    Calls Try.prog 11 #[.pointer (some ⟨g, 0, none⟩), nodeV n] w fun e w' => e = .returned (.tuple #[.int .i64 0, .int .i64 e0]) ∧ ArenaAt w' base P g l (wrap64 (m + 1)) v bm ∧ Below base w w' ∧ Kept w w' P := by
  have e0b : (e0 != 0) = true := bne_iff_ne.mpr hr
  go_enter Try.func11, Try.ntmps11
  unfold nodeV
  go_wp2_with (first
    | ((with_reducible refine gate_dst (N := 3) rfl ?_); (try (refine gate_guard (by rfl) ?_; dsimp only)); refine box_event ?hg (N := 3) ?hd (cs := #[.int .i64 n.f0, .int .i64 n.f1, .int .u64 n.f2, .int .i64 n.f3.f0, .int .i64 n.f3.f1, .int .i64 n.f3.f2]) (t := 32) ?hr ?_; (case hd => rfl); (case hg => rfl); (case hr => first | (go_simp; done) | (go_simp; rfl)); intro gb hg w1 hbox hb; have h1 := h.below hb; have hc2 : w1.cell? ⟨g, 2, none⟩ = some (.int .i64 m) := blk_cell h1.blk 2; have hz2 := blk_frozen h1.blk 2)
    | (go_at_call 25; refine (atomic_add_calls g 2 m _ hc2 hz2).mono ?_; rintro e w2 ⟨rfl, hw2_⟩; have HW2 := Aside0.mk hw2_; have HG := Aside0.mk hg; clear hw2_ hg))
  have hw2 := HW2.out
  have hg := HG.out
  rw [← hg]
  have hgv : some gb ≠ v.ownBlock := fun e => by have := Kd.R_lt h.row gb e.symm; rw [hg] at this; omega
  have hgn : g ≠ gb := by have := blk_lt h.blk; rw [hg]; omega
  have h2 : ArenaAt w2 base P g l (wrap64 (m + 1)) v bm := by rw [hw2]; exact h1.asked _
  have hbox2 : w2.heap[gb]? = some (.cells #[.int .i64 n.f0, .int .i64 n.f1, .int .u64 n.f2, .int .i64 n.f3.f0, .int .i64 n.f3.f1, .int .i64 n.f3.f2] 32 (0, 0)) := by rw [hw2]; exact (Below.heap_setCell w1 ⟨g, 2, none⟩ _ gb (Ne.symm hgn)).trans hbox
  have hB2 : Below base w w2 := by rw [hw2]; exact (hb.mono hle).setCell h.leg _
  have hK2 : Kept w w2 P := by rw [hw2]; exact Kept.setCell (Kept.below (Kept.refl w P) hb) (.inl h.okg) _
  clear hbox h1 hc2 hz2 hb hw2 HW2 HG hg
  have q1 : w2.cell? ⟨g, 1, none⟩ = some (.map (some bm)) := blk_cell h2.blk 1
  have k0 := (blk_cell hbox2 0).trans rfl
  have k1 := (blk_cell hbox2 1).trans rfl
  have k2 := (blk_cell hbox2 2).trans rfl
  have k3 := (blk_cell hbox2 3).trans rfl
  have k4 := (blk_cell hbox2 4).trans rfl
  have k5 := (blk_cell hbox2 5).trans rfl
  have hu32 := Try.underlying32
  have hl : ∀ d, (Instr.lookup 52 (.map (some bm)) (.agg #[.int .i64 n.f0, .int .i64 n.f1, .int .u64 n.f2, .int .i64 n.f3.f0, .int .i64 n.f3.f1, .int .i64 n.f3.f2]) true).run Try.prog (w2.drewN d) = .ok (.tuple #[.int .i64 0, .bool false]) (w2.drewN d) := by
    intro d
    have h3 := h2.drewN d
    rcases find_node (w2.drewN d) l h3.fit n hn with ⟨hf, _⟩ | ⟨i, hf, hi⟩
    · exact look_miss _ bm l h3.mp n hn hf
    · exact absurd (List.mem_of_getElem? hi) hm
  go_quiet (fail)
  go_wp2
  obtain ⟨A, c, hv⟩ := Kd.R_slice h2.row
  subst hv
  have h3 := (h2.drewN nq).drew
  have BK3 := blk_drew (blk_drewN hbox2 nq)
  have hB3 := below_drew1 (pw_below_drewN hB2 nq)
  have hK3 : Kept w (w2.drewN nq).drew P := hK2
  clear hl k0 k1 k2 k3 k4 k5 q1
  refine start_ (n := 7) (S := fun w' => w'.cell? ⟨g, 0, none⟩ = some (.slice A l.length c) ∧ w'.cell? ⟨gb, 0, none⟩ = some (.int .i64 n.f0) ∧ w'.cell? ⟨gb, 1, none⟩ = some (.int .i64 n.f1) ∧ w'.cell? ⟨gb, 2, none⟩ = some (.int .u64 n.f2) ∧ w'.cell? ⟨gb, 3, none⟩ = some (.int .i64 n.f3.f0) ∧ w'.cell? ⟨gb, 4, none⟩ = some (.int .i64 n.f3.f1) ∧ w'.cell? ⟨gb, 5, none⟩ = some (.int .i64 n.f3.f2)) (ds := []) #[false, false, false, false, false, false, false] (by kernel_rfl) rfl rfl ⟨blk_cell h3.blk 0, (blk_cell BK3 0).trans rfl, (blk_cell BK3 1).trans rfl, (blk_cell BK3 2).trans rfl, (blk_cell BK3 3).trans rfl, (blk_cell BK3 4).trans rfl, (blk_cell BK3 5).trans rfl⟩ (fun hHeld => ?_)
  generalize (w2.drewN nq).drew = w3 at h3 BK3 hB3 hK3 hHeld ⊢
  refine pure_ (i := 1) (N := some 25) (v := ?_) (a' := ?_) #[false, true, false, false, false, false, false] rfl rfl (by kernel_rfl) (fun _ _ _ h => h) (Or.inl ⟨by rfl, ?_⟩) ?_ ?_
  rotate_left
  · intro w'
    go_simp
    with_reducible rfl
  rotate_left
  · simp only [Act.put, List.setIfInBounds_toArray, List.set_cons_zero, List.set_cons_succ, i64_w, i32_w]
    rfl
  refine pure_ (i := 2) (N := some 26) (v := ?_) (a' := ?_) #[false, true, true, false, false, false, false] rfl rfl (by kernel_rfl) (fun _ _ _ h => h) (Or.inl ⟨by rfl, ?_⟩) ?_ ?_
  rotate_left
  · intro w'
    go_simp
    with_reducible rfl
  rotate_left
  · simp only [Act.put, List.setIfInBounds_toArray, List.set_cons_zero, List.set_cons_succ, i64_w, i32_w]
    rfl
  refine pure_ (i := 3) (N := some 27) (v := ?_) (a' := ?_) #[false, true, true, true, false, false, false] rfl rfl (by kernel_rfl) (fun _ _ _ h => h) (Or.inl ⟨by rfl, ?_⟩) ?_ ?_
  rotate_left
  · intro w'
    go_simp
    with_reducible rfl
  rotate_left
  · simp only [Act.put, List.setIfInBounds_toArray, List.set_cons_zero, List.set_cons_succ, i64_w, i32_w]
    rfl
  refine take_ (i := 0) (N := some 24) (v := ?_) (a' := ?_) #[true, true, true, true, false, false, false] rfl rfl (by kernel_rfl) (fun _ _ _ h => h) (Or.inl ⟨by rfl, ?_⟩) hHeld ?_ ?_
  rotate_left
  · rintro w' ⟨s0, s1, s2, s3, s4, s5, s6⟩
    go_simp
    with_reducible rfl
  rotate_left
  · simp only [Act.put, List.setIfInBounds_toArray, List.set_cons_zero, List.set_cons_succ, i64_w, i32_w]
    rfl
  refine take_ (i := 4) (N := some 28) (v := ?_) (a' := ?_) #[true, true, true, true, true, false, false] rfl rfl (by kernel_rfl) (fun _ _ _ h => h) (Or.inl ⟨by rfl, ?_⟩) hHeld ?_ ?_
  rotate_left
  · rintro w' ⟨s0, s1, s2, s3, s4, s5, s6⟩
    go_simp
    with_reducible rfl
  rotate_left
  · simp only [Act.put, List.setIfInBounds_toArray, List.set_cons_zero, List.set_cons_succ, i64_w, i32_w]
    rfl
  refine one_ (i := 5) (N := some 29) #[true, true, true, true, true, true, false] rfl rfl (by kernel_rfl) (by decide) (fun K hK => ?_)
  refine goes_ Try.func26 (by kernel_rfl) rfl #[.agg #[.int .i64 n.f0, .int .i64 n.f1, .int .u64 n.f2, .int .i64 n.f3.f0, .int .i64 n.f3.f1, .int .i64 n.f3.f2], .slice A l.length c] (by rfl) rfl rfl (by simp only [List.map_toArray, List.map_cons, List.map_nil]; rfl) ?_
  with_reducible refine (term_right.calls k n.f0 n.f1 n.f2 n.f3.f0 n.f3.f1 n.f3.f2 A c l e0 _ (Kd.R_reads' h3.row).2.2 (Kd.R_reads' h3.row).2.1 he).mono ?_
  rintro e w4 ⟨rfl, hb⟩
  refine ⟨_, rfl, ?_⟩
  have h4 := h3.below hb
  have BK4 := blk_below BK3 hb
  have hB4 := below_then hB3 (Nat.le_trans hle hK3.1) hb
  have hK4 := Kept.below hK3 hb
  clear h3 BK3 hB3 hK3 hb
  refine hK.out _ _ ⟨blk_cell h4.blk 0, (blk_cell BK4 0).trans rfl, (blk_cell BK4 1).trans rfl, (blk_cell BK4 2).trans rfl, (blk_cell BK4 3).trans rfl, (blk_cell BK4 4).trans rfl, (blk_cell BK4 5).trans rfl⟩ (fun hHeld => ?_)
  clear hK K
  refine norm_ (a' := ?_) ?_ ?_
  rotate_left
  · show Act.put _ (some 29) _ = _
    simp only [Act.put, List.setIfInBounds_toArray, List.set_cons_zero, List.set_cons_succ, i64_w, i32_w]
    rfl
  refine pure_ (i := 6) (N := some 8) (v := ?_) (a' := ?_) #[true, true, true, true, true, true, true] rfl rfl (by kernel_rfl) (fun _ _ _ h => h) (Or.inl ⟨by rfl, ?_⟩) ?_ ?_
  rotate_left
  · intro w'
    go_simp
    with_reducible rfl
  rotate_left
  · simp only [Act.put, List.setIfInBounds_toArray, List.set_cons_zero, List.set_cons_succ, i64_w, i32_w]
    rfl
  refine done_ (by kernel_rfl) ?_

  clear hHeld h2 hbox2 hB2 hK2
  go_wp2
  go_ret2
  exact ⟨rfl, h4, hB4, hK4⟩

set_option maxHeartbeats 8000000 in
set_option maxRecDepth 100000 in
theorem term_Arena_Make.full (k : Nat) (base : Nat) (P : Nat → Prop) (g : Nat) (l : List S32) (m : Int) (v : Value) (bm : Nat) (n : S32) (e0 : Int) (w : World) (h : ArenaAt w base P g l m v bm) (hle : base ≤ w.heap.size) (hn : okN n = true) (hm : n ∉ l) (he : term_right.f k n.f0 n.f1 n.f2 n.f3.f0 n.f3.f1 n.f3.f2 l = some e0) (hr : e0 = 0) (hf : 65536 ≤ (l.length : Int)) :
    Calls Try.prog 11 #[.pointer (some ⟨g, 0, none⟩), nodeV n] w fun e w' => e = .returned (.tuple #[.int .i64 0, .int .i64 10]) ∧ ArenaAt w' base P g l (wrap64 (m + 1)) v bm ∧ Below base w w' ∧ Kept w w' P := by
  have e0b : (e0 != 0) = false := bne_eq_false_iff_eq.mpr hr
  have hfb : decide (65536 ≤ (l.length : Int)) = true := decide_eq_true hf
  have hfb2 : decide (65536 ≤ l.length) = true := decide_eq_true (by omega)
  go_enter Try.func11, Try.ntmps11
  unfold nodeV
  go_wp2_with (first
    | ((with_reducible refine gate_dst (N := 3) rfl ?_); (try (refine gate_guard (by rfl) ?_; dsimp only)); refine box_event ?hg (N := 3) ?hd (cs := #[.int .i64 n.f0, .int .i64 n.f1, .int .u64 n.f2, .int .i64 n.f3.f0, .int .i64 n.f3.f1, .int .i64 n.f3.f2]) (t := 32) ?hr ?_; (case hd => rfl); (case hg => rfl); (case hr => first | (go_simp; done) | (go_simp; rfl)); intro gb hg w1 hbox hb; have h1 := h.below hb; have hc2 : w1.cell? ⟨g, 2, none⟩ = some (.int .i64 m) := blk_cell h1.blk 2; have hz2 := blk_frozen h1.blk 2)
    | (go_at_call 25; refine (atomic_add_calls g 2 m _ hc2 hz2).mono ?_; rintro e w2 ⟨rfl, hw2_⟩; have HW2 := Aside0.mk hw2_; have HG := Aside0.mk hg; clear hw2_ hg))
  have hw2 := HW2.out
  have hg := HG.out
  rw [← hg]
  have hgv : some gb ≠ v.ownBlock := fun e => by have := Kd.R_lt h.row gb e.symm; rw [hg] at this; omega
  have hgn : g ≠ gb := by have := blk_lt h.blk; rw [hg]; omega
  have h2 : ArenaAt w2 base P g l (wrap64 (m + 1)) v bm := by rw [hw2]; exact h1.asked _
  have hbox2 : w2.heap[gb]? = some (.cells #[.int .i64 n.f0, .int .i64 n.f1, .int .u64 n.f2, .int .i64 n.f3.f0, .int .i64 n.f3.f1, .int .i64 n.f3.f2] 32 (0, 0)) := by rw [hw2]; exact (Below.heap_setCell w1 ⟨g, 2, none⟩ _ gb (Ne.symm hgn)).trans hbox
  have hB2 : Below base w w2 := by rw [hw2]; exact (hb.mono hle).setCell h.leg _
  have hK2 : Kept w w2 P := by rw [hw2]; exact Kept.setCell (Kept.below (Kept.refl w P) hb) (.inl h.okg) _
  clear hbox h1 hc2 hz2 hb hw2 HW2 HG hg
  have q1 : w2.cell? ⟨g, 1, none⟩ = some (.map (some bm)) := blk_cell h2.blk 1
  have k0 := (blk_cell hbox2 0).trans rfl
  have k1 := (blk_cell hbox2 1).trans rfl
  have k2 := (blk_cell hbox2 2).trans rfl
  have k3 := (blk_cell hbox2 3).trans rfl
  have k4 := (blk_cell hbox2 4).trans rfl
  have k5 := (blk_cell hbox2 5).trans rfl
  have hu32 := Try.underlying32
  have hl : ∀ d, (Instr.lookup 52 (.map (some bm)) (.agg #[.int .i64 n.f0, .int .i64 n.f1, .int .u64 n.f2, .int .i64 n.f3.f0, .int .i64 n.f3.f1, .int .i64 n.f3.f2]) true).run Try.prog (w2.drewN d) = .ok (.tuple #[.int .i64 0, .bool false]) (w2.drewN d) := by
    intro d
    have h3 := h2.drewN d
    rcases find_node (w2.drewN d) l h3.fit n hn with ⟨hf, _⟩ | ⟨i, hf, hi⟩
    · exact look_miss _ bm l h3.mp n hn hf
    · exact absurd (List.mem_of_getElem? hi) hm
  go_quiet (fail)
  go_wp2
  obtain ⟨A, c, hv⟩ := Kd.R_slice h2.row
  subst hv
  have h3 := (h2.drewN nq).drew
  have BK3 := blk_drew (blk_drewN hbox2 nq)
  have hB3 := below_drew1 (pw_below_drewN hB2 nq)
  have hK3 : Kept w (w2.drewN nq).drew P := hK2
  clear hl k0 k1 k2 k3 k4 k5 q1
  refine start_ (n := 7) (S := fun w' => w'.cell? ⟨g, 0, none⟩ = some (.slice A l.length c) ∧ w'.cell? ⟨gb, 0, none⟩ = some (.int .i64 n.f0) ∧ w'.cell? ⟨gb, 1, none⟩ = some (.int .i64 n.f1) ∧ w'.cell? ⟨gb, 2, none⟩ = some (.int .u64 n.f2) ∧ w'.cell? ⟨gb, 3, none⟩ = some (.int .i64 n.f3.f0) ∧ w'.cell? ⟨gb, 4, none⟩ = some (.int .i64 n.f3.f1) ∧ w'.cell? ⟨gb, 5, none⟩ = some (.int .i64 n.f3.f2)) (ds := []) #[false, false, false, false, false, false, false] (by kernel_rfl) rfl rfl ⟨blk_cell h3.blk 0, (blk_cell BK3 0).trans rfl, (blk_cell BK3 1).trans rfl, (blk_cell BK3 2).trans rfl, (blk_cell BK3 3).trans rfl, (blk_cell BK3 4).trans rfl, (blk_cell BK3 5).trans rfl⟩ (fun hHeld => ?_)
  generalize (w2.drewN nq).drew = w3 at h3 BK3 hB3 hK3 hHeld ⊢
  refine pure_ (i := 1) (N := some 25) (v := ?_) (a' := ?_) #[false, true, false, false, false, false, false] rfl rfl (by kernel_rfl) (fun _ _ _ h => h) (Or.inl ⟨by rfl, ?_⟩) ?_ ?_
  rotate_left
  · intro w'
    go_simp
    with_reducible rfl
  rotate_left
  · simp only [Act.put, List.setIfInBounds_toArray, List.set_cons_zero, List.set_cons_succ, i64_w, i32_w]
    rfl
  refine pure_ (i := 2) (N := some 26) (v := ?_) (a' := ?_) #[false, true, true, false, false, false, false] rfl rfl (by kernel_rfl) (fun _ _ _ h => h) (Or.inl ⟨by rfl, ?_⟩) ?_ ?_
  rotate_left
  · intro w'
    go_simp
    with_reducible rfl
  rotate_left
  · simp only [Act.put, List.setIfInBounds_toArray, List.set_cons_zero, List.set_cons_succ, i64_w, i32_w]
    rfl
  refine pure_ (i := 3) (N := some 27) (v := ?_) (a' := ?_) #[false, true, true, true, false, false, false] rfl rfl (by kernel_rfl) (fun _ _ _ h => h) (Or.inl ⟨by rfl, ?_⟩) ?_ ?_
  rotate_left
  · intro w'
    go_simp
    with_reducible rfl
  rotate_left
  · simp only [Act.put, List.setIfInBounds_toArray, List.set_cons_zero, List.set_cons_succ, i64_w, i32_w]
    rfl
  refine take_ (i := 0) (N := some 24) (v := ?_) (a' := ?_) #[true, true, true, true, false, false, false] rfl rfl (by kernel_rfl) (fun _ _ _ h => h) (Or.inl ⟨by rfl, ?_⟩) hHeld ?_ ?_
  rotate_left
  · rintro w' ⟨s0, s1, s2, s3, s4, s5, s6⟩
    go_simp
    with_reducible rfl
  rotate_left
  · simp only [Act.put, List.setIfInBounds_toArray, List.set_cons_zero, List.set_cons_succ, i64_w, i32_w]
    rfl
  refine take_ (i := 4) (N := some 28) (v := ?_) (a' := ?_) #[true, true, true, true, true, false, false] rfl rfl (by kernel_rfl) (fun _ _ _ h => h) (Or.inl ⟨by rfl, ?_⟩) hHeld ?_ ?_
  rotate_left
  · rintro w' ⟨s0, s1, s2, s3, s4, s5, s6⟩
    go_simp
    with_reducible rfl
  rotate_left
  · simp only [Act.put, List.setIfInBounds_toArray, List.set_cons_zero, List.set_cons_succ, i64_w, i32_w]
    rfl
  refine one_ (i := 5) (N := some 29) #[true, true, true, true, true, true, false] rfl rfl (by kernel_rfl) (by decide) (fun K hK => ?_)
  refine goes_ Try.func26 (by kernel_rfl) rfl #[.agg #[.int .i64 n.f0, .int .i64 n.f1, .int .u64 n.f2, .int .i64 n.f3.f0, .int .i64 n.f3.f1, .int .i64 n.f3.f2], .slice A l.length c] (by rfl) rfl rfl (by simp only [List.map_toArray, List.map_cons, List.map_nil]; rfl) ?_
  with_reducible refine (term_right.calls k n.f0 n.f1 n.f2 n.f3.f0 n.f3.f1 n.f3.f2 A c l e0 _ (Kd.R_reads' h3.row).2.2 (Kd.R_reads' h3.row).2.1 he).mono ?_
  rintro e w4 ⟨rfl, hb⟩
  refine ⟨_, rfl, ?_⟩
  have h4 := h3.below hb
  have BK4 := blk_below BK3 hb
  have hB4 := below_then hB3 (Nat.le_trans hle hK3.1) hb
  have hK4 := Kept.below hK3 hb
  clear h3 BK3 hB3 hK3 hb
  refine hK.out _ _ ⟨blk_cell h4.blk 0, (blk_cell BK4 0).trans rfl, (blk_cell BK4 1).trans rfl, (blk_cell BK4 2).trans rfl, (blk_cell BK4 3).trans rfl, (blk_cell BK4 4).trans rfl, (blk_cell BK4 5).trans rfl⟩ (fun hHeld => ?_)
  clear hK K
  refine norm_ (a' := ?_) ?_ ?_
  rotate_left
  · show Act.put _ (some 29) _ = _
    simp only [Act.put, List.setIfInBounds_toArray, List.set_cons_zero, List.set_cons_succ, i64_w, i32_w]
    rfl
  refine pure_ (i := 6) (N := some 8) (v := ?_) (a' := ?_) #[true, true, true, true, true, true, true] rfl rfl (by kernel_rfl) (fun _ _ _ h => h) (Or.inl ⟨by rfl, ?_⟩) ?_ ?_
  rotate_left
  · intro w'
    go_simp
    with_reducible rfl
  rotate_left
  · simp only [Act.put, List.setIfInBounds_toArray, List.set_cons_zero, List.set_cons_succ, i64_w, i32_w]
    rfl
  refine done_ (by kernel_rfl) ?_

  clear hHeld h2 hbox2 hB2 hK2
  have q0 : w4.cell? ⟨g, 0, none⟩ = some (.slice A l.length c) := blk_cell h4.blk 0
  go_wp2
  go_ret2
  exact ⟨rfl, h4, hB4, hK4⟩

theorem heap_setBlock_ne (w : World) {b k : Nat} (o : Obj) (h : k ≠ b) : (ChangeMaps.setBlock w b o).heap[k]? = w.heap[k]? := by
  simp [ChangeMaps.setBlock, Array.getElem?_setIfInBounds, Ne.symm h]
theorem heap_setBlock_eq (w : World) {b : Nat} (o : Obj) (h : b < w.heap.size) : (ChangeMaps.setBlock w b o).heap[b]? = some o := by
  simp [ChangeMaps.setBlock, Array.getElem?_setIfInBounds, h]
theorem below_setBlock {B : Nat} {w W : World} {b : Nat} (o : Obj) (h : Below B w W) (hb : B ≤ b) : Below B w (ChangeMaps.setBlock W b o) :=
  h.trans ⟨rfl, rfl, rfl, by simp [ChangeMaps.setBlock], fun k hk => heap_setBlock_ne W o (by omega)⟩
theorem kept_setBlock {w W : World} {S : Nat → Prop} {b : Nat} (o : Obj) (h : Kept w W S) (hb : S b) : Kept w (ChangeMaps.setBlock W b o) S :=
  h.then_ (S2 := fun k => k = b) ⟨by simp [ChangeMaps.setBlock], fun i _ hn => heap_setBlock_ne W o hn⟩ (fun k hk => .inl (hk ▸ hb))

set_option maxHeartbeats 8000000 in
set_option maxRecDepth 100000 in
theorem term_Arena_Make.made (k : Nat) (base : Nat) (P : Nat → Prop) (g : Nat) (l : List S32) (m : Int) (v : Value) (bm : Nat) (n : S32) (e0 : Int) (w : World) (h : ArenaAt w base P g l m v bm) (hle : base ≤ w.heap.size) (hn : okN n = true) (hm : n ∉ l) (he : term_right.f k n.f0 n.f1 n.f2 n.f3.f0 n.f3.f1 n.f3.f2 l = some e0) (hr : e0 = 0) (hf : ¬ 65536 ≤ (l.length : Int)) :
    Calls Try.prog 11 #[.pointer (some ⟨g, 0, none⟩), nodeV n] w fun e w' => ∃ v', e = .returned (.tuple #[.int .i64 l.length, .int .i64 0]) ∧ ArenaAt w' base (fun k_ => P k_ ∨ w.heap.size ≤ k_) g (l ++ [n]) (wrap64 (m + 1)) v' bm ∧ Below base w w' ∧ Kept w w' P := by
  have e0b : (e0 != 0) = false := bne_eq_false_iff_eq.mpr hr
  have hfb : decide (65536 ≤ (l.length : Int)) = false := decide_eq_false hf
  have hfb2 : decide (65536 ≤ l.length) = false := decide_eq_false (by omega)
  obtain ⟨L, hL⟩ : ∃ L, L = l ++ [n] := ⟨_, rfl⟩
  have HLl := Aside0.mk (show L.length = l.length + 1 by rw [hL]; simp)
  rw [← hL]
  have HL := Aside0.mk hL
  clear hL
  go_enter Try.func11, Try.ntmps11
  unfold nodeV
  go_wp2_with (first
    | ((with_reducible refine gate_dst (N := 3) rfl ?_); (try (refine gate_guard (by rfl) ?_; dsimp only)); refine box_event ?hg (N := 3) ?hd (cs := #[.int .i64 n.f0, .int .i64 n.f1, .int .u64 n.f2, .int .i64 n.f3.f0, .int .i64 n.f3.f1, .int .i64 n.f3.f2]) (t := 32) ?hr ?_; (case hd => rfl); (case hg => rfl); (case hr => first | (go_simp; done) | (go_simp; rfl)); intro gb hg w1 hbox hb; have h1 := h.below hb; have hc2 : w1.cell? ⟨g, 2, none⟩ = some (.int .i64 m) := blk_cell h1.blk 2; have hz2 := blk_frozen h1.blk 2)
    | (go_at_call 25; refine (atomic_add_calls g 2 m _ hc2 hz2).mono ?_; rintro e w2 ⟨rfl, hw2_⟩; have HW2 := Aside0.mk hw2_; have HG := Aside0.mk hg; clear hw2_ hg))
  have hw2 := HW2.out
  have hg := HG.out
  rw [← hg]
  have hgv : some gb ≠ v.ownBlock := fun e => by have := Kd.R_lt h.row gb e.symm; rw [hg] at this; omega
  have hgn : g ≠ gb := by have := blk_lt h.blk; rw [hg]; omega
  have h2 : ArenaAt w2 base P g l (wrap64 (m + 1)) v bm := by rw [hw2]; exact h1.asked _
  have hbox2 : w2.heap[gb]? = some (.cells #[.int .i64 n.f0, .int .i64 n.f1, .int .u64 n.f2, .int .i64 n.f3.f0, .int .i64 n.f3.f1, .int .i64 n.f3.f2] 32 (0, 0)) := by rw [hw2]; exact (Below.heap_setCell w1 ⟨g, 2, none⟩ _ gb (Ne.symm hgn)).trans hbox
  have hB2 : Below base w w2 := by rw [hw2]; exact (hb.mono hle).setCell h.leg _
  have hK2 : Kept w w2 P := by rw [hw2]; exact Kept.setCell (Kept.below (Kept.refl w P) hb) (.inl h.okg) _
  clear hbox h1 hc2 hz2 hb hw2 HW2 HG hg
  have q1 : w2.cell? ⟨g, 1, none⟩ = some (.map (some bm)) := blk_cell h2.blk 1
  have k0 := (blk_cell hbox2 0).trans rfl
  have k1 := (blk_cell hbox2 1).trans rfl
  have k2 := (blk_cell hbox2 2).trans rfl
  have k3 := (blk_cell hbox2 3).trans rfl
  have k4 := (blk_cell hbox2 4).trans rfl
  have k5 := (blk_cell hbox2 5).trans rfl
  have hu32 := Try.underlying32
  have hl : ∀ d, (Instr.lookup 52 (.map (some bm)) (.agg #[.int .i64 n.f0, .int .i64 n.f1, .int .u64 n.f2, .int .i64 n.f3.f0, .int .i64 n.f3.f1, .int .i64 n.f3.f2]) true).run Try.prog (w2.drewN d) = .ok (.tuple #[.int .i64 0, .bool false]) (w2.drewN d) := by
    intro d
    have h3 := h2.drewN d
    rcases find_node (w2.drewN d) l h3.fit n hn with ⟨hf, _⟩ | ⟨i, hf, hi⟩
    · exact look_miss _ bm l h3.mp n hn hf
    · exact absurd (List.mem_of_getElem? hi) hm
  go_quiet (fail)
  go_wp2
  obtain ⟨A, c, hv⟩ := Kd.R_slice h2.row
  subst hv
  have h3 := (h2.drewN nq).drew
  have BK3 := blk_drew (blk_drewN hbox2 nq)
  have hB3 := below_drew1 (pw_below_drewN hB2 nq)
  have hK3 : Kept w (w2.drewN nq).drew P := hK2
  clear hl k0 k1 k2 k3 k4 k5 q1
  refine start_ (n := 7) (S := fun w' => w'.cell? ⟨g, 0, none⟩ = some (.slice A l.length c) ∧ w'.cell? ⟨gb, 0, none⟩ = some (.int .i64 n.f0) ∧ w'.cell? ⟨gb, 1, none⟩ = some (.int .i64 n.f1) ∧ w'.cell? ⟨gb, 2, none⟩ = some (.int .u64 n.f2) ∧ w'.cell? ⟨gb, 3, none⟩ = some (.int .i64 n.f3.f0) ∧ w'.cell? ⟨gb, 4, none⟩ = some (.int .i64 n.f3.f1) ∧ w'.cell? ⟨gb, 5, none⟩ = some (.int .i64 n.f3.f2)) (ds := []) #[false, false, false, false, false, false, false] (by kernel_rfl) rfl rfl ⟨blk_cell h3.blk 0, (blk_cell BK3 0).trans rfl, (blk_cell BK3 1).trans rfl, (blk_cell BK3 2).trans rfl, (blk_cell BK3 3).trans rfl, (blk_cell BK3 4).trans rfl, (blk_cell BK3 5).trans rfl⟩ (fun hHeld => ?_)
  generalize (w2.drewN nq).drew = w3 at h3 BK3 hB3 hK3 hHeld ⊢
  refine pure_ (i := 1) (N := some 25) (v := ?_) (a' := ?_) #[false, true, false, false, false, false, false] rfl rfl (by kernel_rfl) (fun _ _ _ h => h) (Or.inl ⟨by rfl, ?_⟩) ?_ ?_
  rotate_left
  · intro w'
    go_simp
    with_reducible rfl
  rotate_left
  · simp only [Act.put, List.setIfInBounds_toArray, List.set_cons_zero, List.set_cons_succ, i64_w, i32_w]
    rfl
  refine pure_ (i := 2) (N := some 26) (v := ?_) (a' := ?_) #[false, true, true, false, false, false, false] rfl rfl (by kernel_rfl) (fun _ _ _ h => h) (Or.inl ⟨by rfl, ?_⟩) ?_ ?_
  rotate_left
  · intro w'
    go_simp
    with_reducible rfl
  rotate_left
  · simp only [Act.put, List.setIfInBounds_toArray, List.set_cons_zero, List.set_cons_succ, i64_w, i32_w]
    rfl
  refine pure_ (i := 3) (N := some 27) (v := ?_) (a' := ?_) #[false, true, true, true, false, false, false] rfl rfl (by kernel_rfl) (fun _ _ _ h => h) (Or.inl ⟨by rfl, ?_⟩) ?_ ?_
  rotate_left
  · intro w'
    go_simp
    with_reducible rfl
  rotate_left
  · simp only [Act.put, List.setIfInBounds_toArray, List.set_cons_zero, List.set_cons_succ, i64_w, i32_w]
    rfl
  refine take_ (i := 0) (N := some 24) (v := ?_) (a' := ?_) #[true, true, true, true, false, false, false] rfl rfl (by kernel_rfl) (fun _ _ _ h => h) (Or.inl ⟨by rfl, ?_⟩) hHeld ?_ ?_
  rotate_left
  · rintro w' ⟨s0, s1, s2, s3, s4, s5, s6⟩
    go_simp
    with_reducible rfl
  rotate_left
  · simp only [Act.put, List.setIfInBounds_toArray, List.set_cons_zero, List.set_cons_succ, i64_w, i32_w]
    rfl
  refine take_ (i := 4) (N := some 28) (v := ?_) (a' := ?_) #[true, true, true, true, true, false, false] rfl rfl (by kernel_rfl) (fun _ _ _ h => h) (Or.inl ⟨by rfl, ?_⟩) hHeld ?_ ?_
  rotate_left
  · rintro w' ⟨s0, s1, s2, s3, s4, s5, s6⟩
    go_simp
    with_reducible rfl
  rotate_left
  · simp only [Act.put, List.setIfInBounds_toArray, List.set_cons_zero, List.set_cons_succ, i64_w, i32_w]
    rfl
  refine one_ (i := 5) (N := some 29) #[true, true, true, true, true, true, false] rfl rfl (by kernel_rfl) (by decide) (fun K hK => ?_)
  refine goes_ Try.func26 (by kernel_rfl) rfl #[.agg #[.int .i64 n.f0, .int .i64 n.f1, .int .u64 n.f2, .int .i64 n.f3.f0, .int .i64 n.f3.f1, .int .i64 n.f3.f2], .slice A l.length c] (by rfl) rfl rfl (by simp only [List.map_toArray, List.map_cons, List.map_nil]; rfl) ?_
  with_reducible refine (term_right.calls k n.f0 n.f1 n.f2 n.f3.f0 n.f3.f1 n.f3.f2 A c l e0 _ (Kd.R_reads' h3.row).2.2 (Kd.R_reads' h3.row).2.1 he).mono ?_
  rintro e w4 ⟨rfl, hb⟩
  refine ⟨_, rfl, ?_⟩
  have h4 := h3.below hb
  have BK4 := blk_below BK3 hb
  have hB4 := below_then hB3 (Nat.le_trans hle hK3.1) hb
  have hK4 := Kept.below hK3 hb
  clear h3 BK3 hB3 hK3 hb
  refine hK.out _ _ ⟨blk_cell h4.blk 0, (blk_cell BK4 0).trans rfl, (blk_cell BK4 1).trans rfl, (blk_cell BK4 2).trans rfl, (blk_cell BK4 3).trans rfl, (blk_cell BK4 4).trans rfl, (blk_cell BK4 5).trans rfl⟩ (fun hHeld => ?_)
  clear hK K
  refine norm_ (a' := ?_) ?_ ?_
  rotate_left
  · show Act.put _ (some 29) _ = _
    simp only [Act.put, List.setIfInBounds_toArray, List.set_cons_zero, List.set_cons_succ, i64_w, i32_w]
    rfl
  refine pure_ (i := 6) (N := some 8) (v := ?_) (a' := ?_) #[true, true, true, true, true, true, true] rfl rfl (by kernel_rfl) (fun _ _ _ h => h) (Or.inl ⟨by rfl, ?_⟩) ?_ ?_
  rotate_left
  · intro w'
    go_simp
    with_reducible rfl
  rotate_left
  · simp only [Act.put, List.setIfInBounds_toArray, List.set_cons_zero, List.set_cons_succ, i64_w, i32_w]
    rfl
  refine done_ (by kernel_rfl) ?_

  clear hHeld h2 hbox2 hB2 hK2
  have q0 : w4.cell? ⟨g, 0, none⟩ = some (.slice A l.length c) := blk_cell h4.blk 0
  go_wp2
  clear q0
  have h5 := h4.drew
  have BK5 := blk_drew BK4
  have hB5 := below_drew1 hB4
  have hK5 : Kept w w4.drew P := hK4
  refine start_ (n := 11) (S := fun w' => w'.cell? ⟨g, 0, none⟩ = some (.slice A l.length c) ∧ w'.cell? ⟨gb, 0, none⟩ = some (.int .i64 n.f0) ∧ w'.cell? ⟨gb, 1, none⟩ = some (.int .i64 n.f1) ∧ w'.cell? ⟨gb, 2, none⟩ = some (.int .u64 n.f2) ∧ w'.cell? ⟨gb, 3, none⟩ = some (.int .i64 n.f3.f0) ∧ w'.cell? ⟨gb, 4, none⟩ = some (.int .i64 n.f3.f1) ∧ w'.cell? ⟨gb, 5, none⟩ = some (.int .i64 n.f3.f2)) (ds := [10]) #[false, false, false, false, false, false, false, false, false, false, false] (by kernel_rfl) rfl rfl ⟨blk_cell h5.blk 0, (blk_cell BK5 0).trans rfl, (blk_cell BK5 1).trans rfl, (blk_cell BK5 2).trans rfl, (blk_cell BK5 3).trans rfl, (blk_cell BK5 4).trans rfl, (blk_cell BK5 5).trans rfl⟩ (fun hHeld => ?_)
  generalize w4.drew = w5 at h5 BK5 hB5 hK5 hHeld ⊢
  refine pure_ (i := 0) (N := some 39) (v := ?_) (a' := ?_) #[true, false, false, false, false, false, false, false, false, false, false] rfl rfl (by kernel_rfl) (fun _ _ _ h => h) (Or.inl ⟨by rfl, ?_⟩) ?_ ?_
  rotate_left
  · intro w'
    go_simp
    with_reducible rfl
  rotate_left
  · simp only [Act.put, List.setIfInBounds_toArray, List.set_cons_zero, List.set_cons_succ, i64_w, i32_w]
    rfl
  refine pure_ (i := 1) (N := some 40) (v := ?_) (a' := ?_) #[true, true, false, false, false, false, false, false, false, false, false] rfl rfl (by kernel_rfl) (fun _ _ _ h => h) (Or.inl ⟨by rfl, ?_⟩) ?_ ?_
  rotate_left
  · intro w'
    go_simp
    with_reducible rfl
  rotate_left
  · simp only [Act.put, List.setIfInBounds_toArray, List.set_cons_zero, List.set_cons_succ, i64_w, i32_w]
    rfl
  refine pure_ (i := 2) (N := some 41) (v := ?_) (a' := ?_) #[true, true, true, false, false, false, false, false, false, false, false] rfl rfl (by kernel_rfl) (fun _ _ _ h => h) (Or.inl ⟨by rfl, ?_⟩) ?_ ?_
  rotate_left
  · intro w'
    go_simp
    with_reducible rfl
  rotate_left
  · simp only [Act.put, List.setIfInBounds_toArray, List.set_cons_zero, List.set_cons_succ, i64_w, i32_w]
    rfl
  refine pure_ (i := 3) (N := some 42) (v := ?_) (a' := ?_) #[true, true, true, true, false, false, false, false, false, false, false] rfl rfl (by kernel_rfl) (fun _ _ _ h => h) (Or.inl ⟨by rfl, ?_⟩) ?_ ?_
  rotate_left
  · intro w'
    go_simp
    with_reducible rfl
  rotate_left
  · simp only [Act.put, List.setIfInBounds_toArray, List.set_cons_zero, List.set_cons_succ, i64_w, i32_w]
    rfl
  refine take_ (i := 4) (N := some 43) (v := ?_) (a' := ?_) #[true, true, true, true, true, false, false, false, false, false, false] rfl rfl (by kernel_rfl) (fun _ _ _ h => h) (Or.inl ⟨by rfl, ?_⟩) hHeld ?_ ?_
  rotate_left
  · rintro w' ⟨s0, s1, s2, s3, s4, s5, s6⟩
    go_simp
    with_reducible rfl
  rotate_left
  · simp only [Act.put, List.setIfInBounds_toArray, List.set_cons_zero, List.set_cons_succ, i64_w, i32_w]
    rfl
  refine take_ (i := 5) (N := some 44) (v := ?_) (a' := ?_) #[true, true, true, true, true, true, false, false, false, false, false] rfl rfl (by kernel_rfl) (fun _ _ _ h => h) (Or.inl ⟨by rfl, ?_⟩) hHeld ?_ ?_
  rotate_left
  · rintro w' ⟨s0, s1, s2, s3, s4, s5, s6⟩
    go_simp
    with_reducible rfl
  rotate_left
  · simp only [Act.put, List.setIfInBounds_toArray, List.set_cons_zero, List.set_cons_succ, i64_w, i32_w]
    rfl
  refine one_ (i := 6) (N := some 45) #[true, true, true, true, true, true, true, false, false, false, false] rfl rfl (by kernel_rfl) (by decide) (fun K hK => ?_)
  refine Kd.R_lit_step k32 _ 32 ?hg (N := 45) ?hd (xs := ([n] : List S32)) (inner := [.int .i64 n.f0, .int .i64 n.f1, .int .u64 n.f2, .int .i64 n.f3.f0, .int .i64 n.f3.f1, .int .i64 n.f3.f2]) (ok := fun _ => True) (okp := fun _ => True) ?hr ?hp (fun _ hk => hk) trivial (Below.refl _ _) (Nat.le_refl _) (by simp) ?_; (case hd => rfl); (case hg => rfl); (case hr => first | (go_simp; done) | (go_simp; rfl)); (case hp => exact (Reps.c6 (show Kd.M k32 _ _ _ n [.int .i64 n.f0, .int .i64 n.f1, .int .u64 n.f2, .int .i64 n.f3.f0, .int .i64 n.f3.f1, .int .i64 n.f3.f2] from (k32_mkM _ _ _ n)) (Reps.none _ _)))
  intro v6 w6 ho6 hb hg_ hnew_
  clear hg_ hnew_
  have h6 := h5.below hb
  have BK6 := blk_below BK5 hb
  have hB6 := below_then hB5 (Nat.le_trans hle hK5.1) hb
  have hK6 := Kept.below hK5 hb
  clear hb
  obtain ⟨A6, c6, e6⟩ := Kd.R_slice ho6
  subst e6
  refine hK.out _ _ ⟨blk_cell h6.blk 0, (blk_cell BK6 0).trans rfl, (blk_cell BK6 1).trans rfl, (blk_cell BK6 2).trans rfl, (blk_cell BK6 3).trans rfl, (blk_cell BK6 4).trans rfl, (blk_cell BK6 5).trans rfl⟩ (fun hHeld => ?_)
  clear hK K
  refine norm_ (a' := ?_) ?_ ?_
  rotate_left
  · show Act.put _ (some 45) _ = _
    simp only [Act.put, List.setIfInBounds_toArray, List.set_cons_zero, List.set_cons_succ, i64_w, i32_w]
    rfl
  refine one_ (i := 7) (N := some 46) #[true, true, true, true, true, true, true, true, false, false, false] rfl rfl (by kernel_rfl) (by decide) (fun K hK => ?_)
  refine Kd.R_append_rows_step k32 (w0 := w) base (by rfl) (.tmp 43) (.tmp 45) 22 32 (.agg #[(.int .i64 0), (.int .i64 0), (.int .u64 0), (.int .i64 0), (.int .i64 0), (.int .i64 0)]) 48 rfl Try.underlying22 info32 rfl (by decide) (by omega) (.slice A l.length c) l [n] _ _ _ (fun k_ => P k_ ∨ w.heap.size ≤ k_) (fun _ => False) rfl rfl ?aO ?aR (fun _ _ h => h) (fun _ h => h.elim) ?aF ?aB ?aS ?aL ?_
  (case aR => exact (Kd.R_reads' ho6).2.2)
  (case aB => exact hB6)
  (case aF => exact (fun k_ hk => .inr (Nat.le_trans hK6.1 hk)))
  (case aO => exact Kd.R_mono h6.row (fun k_ hk => .inl hk))
  (case aS => exact Nat.le_trans hle hK6.1)
  (case aL => show (l.length + 1) * 48 ≤ 140737488355328; omega)
  intro v7 w7 r7 hB7 hg hat
  rw [← HL.out] at r7
  have b7 := blk_grown h6.blk hg h6.gv
  have m7 := blk_grown h6.mp hg h6.mv
  have BK7 := blk_grown BK6 hg hgv
  have hK7 := Kept.of_grown hg hK6 (fun k_ e_ => .inl (h6.row.1 k_ e_))
  clear hg hat ho6
  obtain ⟨A7, c7, e7⟩ := Kd.R_slice r7
  subst e7
  have hz7 := blk_frozen b7 0
  have hc7 : w7.cell? ⟨g, 0, none⟩ = some (.slice A l.length c) := blk_cell b7 0
  refine hK.out _ _ ⟨blk_cell b7 0, (blk_cell BK7 0).trans rfl, (blk_cell BK7 1).trans rfl, (blk_cell BK7 2).trans rfl, (blk_cell BK7 3).trans rfl, (blk_cell BK7 4).trans rfl, (blk_cell BK7 5).trans rfl⟩ (fun hHeld => ?_)
  clear hK K
  refine norm_ (a' := ?_) ?_ ?_
  rotate_left
  · show Act.put _ (some 46) _ = _
    simp only [Act.put, List.setIfInBounds_toArray, List.set_cons_zero, List.set_cons_succ, i64_w, i32_w]
    rfl
  refine pure_ (i := 8) (N := some 47) (v := ?_) (a' := ?_) #[true, true, true, true, true, true, true, true, true, false, false] rfl rfl (by kernel_rfl) (fun _ _ _ h => h) (Or.inl ⟨by rfl, ?_⟩) ?_ ?_
  rotate_left
  · intro w'
    go_simp
    with_reducible rfl
  rotate_left
  · simp only [Act.put, List.setIfInBounds_toArray, List.set_cons_zero, List.set_cons_succ, i64_w, i32_w]
    rfl
  refine pure_ (i := 9) (N := some 48) (v := ?_) (a' := ?_) #[true, true, true, true, true, true, true, true, true, true, false] rfl rfl (by kernel_rfl) (fun _ _ _ h => h) (Or.inl ⟨by rfl, ?_⟩) ?_ ?_
  rotate_left
  · intro w'
    go_simp
    with_reducible rfl
  rotate_left
  · simp only [Act.put, List.setIfInBounds_toArray, List.set_cons_zero, List.set_cons_succ, i64_w, i32_w]
    rfl
  refine last_ (i := 10) (N := none) #[true, true, true, true, true, true, true, true, true, true, true] rfl rfl (by kernel_rfl) (by decide) (fun K hK => ?_)
  refine skip_ (w1 := ?_) (by rfl) rfl ?_ ?_
  rotate_left
  · go_simp
    rfl
  refine hK.out _ _ ?_
  clear hK K
  refine done_ (by kernel_rfl) ?_

  go_wp2
  have gm : g ≠ bm := h6.gm
  have vg : ∀ k, some k = (Value.slice A7 L.length c7).ownBlock → k ≠ g := by
    rintro k hk rfl
    obtain ⟨cs, hc⟩ := Kd.R_typed r7 k hk.symm
    rw [b7] at hc
    simp at hc
  have vm : ∀ k, some k = (Value.slice A7 L.length c7).ownBlock → k ≠ bm := by
    rintro k hk rfl
    obtain ⟨cs, hc⟩ := Kd.R_typed r7 k hk.symm
    rw [m7] at hc
    simp at hc
  obtain ⟨w8, hw8⟩ : ∃ W, W = w7.setCell ⟨g, 0, none⟩ (.slice A7 L.length c7) := ⟨_, rfl⟩
  rw [← hw8]
  have b8 : w8.heap[g]? = some (.cells #[.slice A7 L.length c7, .map (some bm), .int .i64 (wrap64 (m + 1))] 59 (0, 0)) := by rw [hw8]; exact blk_set b7 0 _
  have m8 : w8.heap[bm]? = some (.map (entries l) l.length) := by rw [hw8]; exact (Below.heap_setCell w7 ⟨g, 0, none⟩ _ bm gm.symm).trans m7
  have r8 : Kd.R k32 32 w8 base (fun k_ => P k_ ∨ w.heap.size ≤ k_) (.slice A7 L.length c7) L := by rw [hw8]; exact row_move r7 (fun k hk => Below.heap_setCell w7 ⟨g, 0, none⟩ _ k (vg k hk))
  have BK8 : w8.heap[gb]? = some (.cells #[.int .i64 n.f0, .int .i64 n.f1, .int .u64 n.f2, .int .i64 n.f3.f0, .int .i64 n.f3.f1, .int .i64 n.f3.f2] 32 (0, 0)) := by rw [hw8]; exact (Below.heap_setCell w7 ⟨g, 0, none⟩ _ gb (Ne.symm hgn)).trans BK7
  have hB8 : Below base w w8 := by rw [hw8]; exact hB7.setCell h.leg _
  have hK8 : Kept w w8 P := by rw [hw8]; exact Kept.setCell hK7 (.inl h.okg) _
  clear hw8 b7 m7 r7 BK7 hB7 hK7 h6 BK6 hB6 hK6 hz7 hc7
  have b9 := blk_drew b8
  have m9 := blk_drew m8
  have r9 := Kd.R_drew r8
  have BK9 := blk_drew BK8
  have hB9 := below_drew1 hB8
  have hK9 : Kept w w8.drew P := hK8
  have hL := HL.out
  have hlen : wrap64 ((L.length : Int) - 1) = l.length := by have hLl := HLl.out; unfold wrap64; omega
  have hput : (Instr.mapUpdate 52 (.map (some bm)) (.agg #[.int .i64 n.f0, .int .i64 n.f1, .int .u64 n.f2, .int .i64 n.f3.f0, .int .i64 n.f3.f1, .int .i64 n.f3.f2]) (.int .i64 (wrap64 ((L.length : Int) - 1)))).run Try.prog w8.drew = .ok () (ChangeMaps.setBlock w8.drew bm (.map (entries L) L.length)) := by
    rw [hlen, hL]
    rcases find_node w8.drew l h.fit n hn with ⟨hf, _⟩ | ⟨i, hf, hi⟩
    · exact put_node _ bm l m9 n hn hf
    · exact absurd (List.mem_of_getElem? hi) hm
  clear b8 m8 r8 BK8 hB8 hK8 hL
  have HLe := Aside0.mk hlen
  clear hlen
  refine start_ (n := 12) (S := fun w' => w'.cell? ⟨g, 0, none⟩ = some (.slice A7 L.length c7) ∧ w'.cell? ⟨g, 1, none⟩ = some (.map (some bm)) ∧ w'.cell? ⟨gb, 0, none⟩ = some (.int .i64 n.f0) ∧ w'.cell? ⟨gb, 1, none⟩ = some (.int .i64 n.f1) ∧ w'.cell? ⟨gb, 2, none⟩ = some (.int .u64 n.f2) ∧ w'.cell? ⟨gb, 3, none⟩ = some (.int .i64 n.f3.f0) ∧ w'.cell? ⟨gb, 4, none⟩ = some (.int .i64 n.f3.f1) ∧ w'.cell? ⟨gb, 5, none⟩ = some (.int .i64 n.f3.f2)) (ds := [11]) #[false, false, false, false, false, false, false, false, false, false, false, false] (by kernel_rfl) rfl rfl ⟨blk_cell b9 0, blk_cell b9 1, (blk_cell BK9 0).trans rfl, (blk_cell BK9 1).trans rfl, (blk_cell BK9 2).trans rfl, (blk_cell BK9 3).trans rfl, (blk_cell BK9 4).trans rfl, (blk_cell BK9 5).trans rfl⟩ (fun hHeld => ?_)
  generalize w8.drew = w9 at b9 m9 r9 BK9 hB9 hK9 hHeld hput ⊢
  refine pure_ (i := 0) (N := some 49) (v := ?_) (a' := ?_) #[true, false, false, false, false, false, false, false, false, false, false, false] rfl rfl (by kernel_rfl) (fun _ _ _ h => h) (Or.inl ⟨by rfl, ?_⟩) ?_ ?_
  rotate_left
  · intro w'
    go_simp
    with_reducible rfl
  rotate_left
  · simp only [Act.put, List.setIfInBounds_toArray, List.set_cons_zero, List.set_cons_succ, i64_w, i32_w]
    rfl
  refine pure_ (i := 1) (N := some 50) (v := ?_) (a' := ?_) #[true, true, false, false, false, false, false, false, false, false, false, false] rfl rfl (by kernel_rfl) (fun _ _ _ h => h) (Or.inl ⟨by rfl, ?_⟩) ?_ ?_
  rotate_left
  · intro w'
    go_simp
    with_reducible rfl
  rotate_left
  · simp only [Act.put, List.setIfInBounds_toArray, List.set_cons_zero, List.set_cons_succ, i64_w, i32_w]
    rfl
  refine pure_ (i := 2) (N := some 51) (v := ?_) (a' := ?_) #[true, true, true, false, false, false, false, false, false, false, false, false] rfl rfl (by kernel_rfl) (fun _ _ _ h => h) (Or.inl ⟨by rfl, ?_⟩) ?_ ?_
  rotate_left
  · intro w'
    go_simp
    with_reducible rfl
  rotate_left
  · simp only [Act.put, List.setIfInBounds_toArray, List.set_cons_zero, List.set_cons_succ, i64_w, i32_w]
    rfl
  refine pure_ (i := 5) (N := some 54) (v := ?_) (a' := ?_) #[true, true, true, false, false, true, false, false, false, false, false, false] rfl rfl (by kernel_rfl) (fun _ _ _ h => h) (Or.inl ⟨by rfl, ?_⟩) ?_ ?_
  rotate_left
  · intro w'
    go_simp
    with_reducible rfl
  rotate_left
  · simp only [Act.put, List.setIfInBounds_toArray, List.set_cons_zero, List.set_cons_succ, i64_w, i32_w]
    rfl
  refine pure_ (i := 6) (N := some 55) (v := ?_) (a' := ?_) #[true, true, true, false, false, true, true, false, false, false, false, false] rfl rfl (by kernel_rfl) (fun _ _ _ h => h) (Or.inl ⟨by rfl, ?_⟩) ?_ ?_
  rotate_left
  · intro w'
    go_simp
    with_reducible rfl
  rotate_left
  · simp only [Act.put, List.setIfInBounds_toArray, List.set_cons_zero, List.set_cons_succ, i64_w, i32_w]
    rfl
  refine pure_ (i := 7) (N := some 56) (v := ?_) (a' := ?_) #[true, true, true, false, false, true, true, true, false, false, false, false] rfl rfl (by kernel_rfl) (fun _ _ _ h => h) (Or.inl ⟨by rfl, ?_⟩) ?_ ?_
  rotate_left
  · intro w'
    go_simp
    with_reducible rfl
  rotate_left
  · simp only [Act.put, List.setIfInBounds_toArray, List.set_cons_zero, List.set_cons_succ, i64_w, i32_w]
    rfl
  refine take_ (i := 3) (N := some 52) (v := ?_) (a' := ?_) #[true, true, true, true, false, true, true, true, false, false, false, false] rfl rfl (by kernel_rfl) (fun _ _ _ h => h) (Or.inl ⟨by rfl, ?_⟩) hHeld ?_ ?_
  rotate_left
  · rintro w' ⟨s0, s1, s2, s3, s4, s5, s6, s7⟩
    go_simp
    with_reducible rfl
  rotate_left
  · simp only [Act.put, List.setIfInBounds_toArray, List.set_cons_zero, List.set_cons_succ, i64_w, i32_w]
    rfl
  refine take_ (i := 4) (N := some 53) (v := ?_) (a' := ?_) #[true, true, true, true, true, true, true, true, false, false, false, false] rfl rfl (by kernel_rfl) (fun _ _ _ h => h) (Or.inl ⟨by rfl, ?_⟩) hHeld ?_ ?_
  rotate_left
  · rintro w' ⟨s0, s1, s2, s3, s4, s5, s6, s7⟩
    go_simp
    with_reducible rfl
  rotate_left
  · simp only [Act.put, List.setIfInBounds_toArray, List.set_cons_zero, List.set_cons_succ, i64_w, i32_w]
    rfl
  refine take_ (i := 8) (N := some 57) (v := ?_) (a' := ?_) #[true, true, true, true, true, true, true, true, true, false, false, false] rfl rfl (by kernel_rfl) (fun _ _ _ h => h) (Or.inl ⟨by rfl, ?_⟩) hHeld ?_ ?_
  rotate_left
  · rintro w' ⟨s0, s1, s2, s3, s4, s5, s6, s7⟩
    go_simp
    with_reducible rfl
  rotate_left
  · simp only [Act.put, List.setIfInBounds_toArray, List.set_cons_zero, List.set_cons_succ, i64_w, i32_w]
    rfl
  refine pure_ (i := 9) (N := some 58) (v := ?_) (a' := ?_) #[true, true, true, true, true, true, true, true, true, true, false, false] rfl rfl (by kernel_rfl) (fun _ _ _ h => h) (Or.inl ⟨by rfl, ?_⟩) ?_ ?_
  rotate_left
  · intro w'
    go_simp
    with_reducible rfl
  rotate_left
  · simp only [Act.put, List.setIfInBounds_toArray, List.set_cons_zero, List.set_cons_succ, i64_w, i32_w]
    rfl
  refine pure_ (i := 10) (N := some 59) (v := ?_) (a' := ?_) #[true, true, true, true, true, true, true, true, true, true, true, false] rfl rfl (by kernel_rfl) (fun _ _ _ h => h) (Or.inl ⟨by rfl, ?_⟩) ?_ ?_
  rotate_left
  · intro w'
    go_simp
    with_reducible rfl
  rotate_left
  · simp only [Act.put, List.setIfInBounds_toArray, List.set_cons_zero, List.set_cons_succ, i64_w, i32_w]
    rfl
  refine last_ (i := 11) (N := none) #[true, true, true, true, true, true, true, true, true, true, true, true] rfl rfl (by kernel_rfl) (by decide) (fun K hK => ?_)
  refine skip_ (w1 := ?_) (by rfl) rfl ?_ ?_
  rotate_left
  · go_simp
    rfl
  refine hK.out _ _ ?_
  clear hK K
  refine done_ (by kernel_rfl) ?_

  have hL := HL.out
  have hlen := HLe.out
  obtain ⟨w10, hw10⟩ : ∃ W, W = ChangeMaps.setBlock w9 bm (.map (entries L) L.length) := ⟨_, rfl⟩
  rw [← hw10]
  have b10 : w10.heap[g]? = some (.cells #[.slice A7 L.length c7, .map (some bm), .int .i64 (wrap64 (m + 1))] 59 (0, 0)) := by rw [hw10]; exact (heap_setBlock_ne _ _ gm).trans b9
  have hA : ArenaAt w10 base (fun k_ => P k_ ∨ w.heap.size ≤ k_) g L (wrap64 (m + 1)) (.slice A7 L.length c7) bm := by
    refine ⟨b10, ?_, ?_, .inl h.okg, .inl h.okm, h.leg, h.lem, ?_, ?_⟩
    · rw [hw10]; exact heap_setBlock_eq _ _ (blk_lt m9)
    · rw [hw10]; exact row_move r9 (fun k hk => heap_setBlock_ne _ _ (vm k hk))
    · rw [hL]
      intro a ha
      rcases List.mem_append.1 ha with ha | ha
      · exact h.fit a ha
      · rw [List.mem_singleton.1 ha]; exact hn
    · rw [hL]
      exact List.nodup_append.2 ⟨h.dist, by simp, fun a ha b hb e => hm (by rw [List.mem_singleton.1 hb] at e; exact e ▸ ha)⟩
  have hB10 : Below base w w10 := by rw [hw10]; exact below_setBlock _ hB9 h.lem
  have hK10 : Kept w w10 P := by rw [hw10]; exact kept_setBlock _ hK9 h.okm
  have q10 : w10.cell? ⟨g, 0, none⟩ = some (.slice A7 L.length c7) := blk_cell b10 0
  clear hput hlen hL hw10 b9 m9 r9 BK9 hB9 hK9 hHeld
  go_wp2
  go_ret2
  exact ⟨_, by rw [← HLe.out]; rfl, hA, hB10, hK10⟩

theorem term_Arena_Make.calls (k : Nat) (base : Nat) (P : Nat → Prop) (g : Nat) (l : List S32) (m : Int) (v : Value) (bm : Nat) (n : S32) (l' : List S32) (r1 r2 : Int) (w : World) (h : ArenaAt w base P g l m v bm) (hle : base ≤ w.heap.size) (hf : term_Arena_Make.f k l n = some (l', r1, r2)) :
    Calls Try.prog 11 #[.pointer (some ⟨g, 0, none⟩), nodeV n] w fun e w' => ∃ v', e = .returned (.tuple #[.int .i64 r1, .int .i64 r2]) ∧ ArenaAt w' base (fun k_ => P k_ ∨ w.heap.size ≤ k_) g l' (wrap64 (m + 1)) v' bm ∧ Below base w w' ∧ Kept w w' P := by
  unfold term_Arena_Make.f at hf
  by_cases hn : okN n = true
  · rw [if_pos hn] at hf
    by_cases hm : n ∈ l
    · rw [if_pos hm] at hf
      simp only [Option.some.injEq, Prod.mk.injEq] at hf
      obtain ⟨rfl, rfl, rfl⟩ := hf
      refine (term_Arena_Make.hit base P g l m v bm n w h hle hn hm).mono ?_
      rintro e w' ⟨he, hA, hB, hK⟩
      exact ⟨v, he, hA.mono (fun _ hk => .inl hk), hB, hK⟩
    · rw [if_neg hm] at hf
      obtain ⟨e0, he, hf⟩ := Option.bind_eq_some_iff.mp hf
      by_cases hr : e0 = 0
      · rw [if_pos hr] at hf
        by_cases hs : 65536 ≤ (l.length : Int)
        · rw [if_pos hs] at hf
          simp only [Option.some.injEq, Prod.mk.injEq] at hf
          obtain ⟨rfl, rfl, rfl⟩ := hf
          refine (term_Arena_Make.full k base P g l m v bm n e0 w h hle hn hm he hr hs).mono ?_
          rintro e w' ⟨he, hA, hB, hK⟩
          exact ⟨v, he, hA.mono (fun _ hk => .inl hk), hB, hK⟩
        · rw [if_neg hs] at hf
          simp only [Option.some.injEq, Prod.mk.injEq] at hf
          obtain ⟨rfl, rfl, rfl⟩ := hf
          exact term_Arena_Make.made k base P g l m v bm n e0 w h hle hn hm he hr hs
      · rw [if_neg hr] at hf
        simp only [Option.some.injEq, Prod.mk.injEq] at hf
        obtain ⟨rfl, rfl, rfl⟩ := hf
        refine (term_Arena_Make.refused k base P g l m v bm n e0 w h hle hn hm he hr).mono ?_
        rintro e w' ⟨he, hA, hB, hK⟩
        exact ⟨v, he, hA.mono (fun _ hk => .inl hk), hB, hK⟩
  · rw [if_neg hn] at hf
    cases hf

end Go.Proofs.Ytkindfbbklkjdaa.P
