import Derived.Test.YtkindfbbklkjdaaGg
namespace Go.Proofs.Ytkindfbbklkjdaa.P
open Go.RowKit Go.Proofs.YtkindfbbklkjdaaW.PrintWords Go.Proofs.YtkindfbbklkjdaaW.PrintLast Go.Proofs.YtkindfbbklkjdaaW.PrintMore
set_option linter.unusedVariables false
set_option linter.unusedSimpArgs false

def aw0 : S32 := ⟨1, 8, 0, ⟨0, 0, 0⟩⟩
def aw1 : S32 := ⟨6, 64, 0, ⟨0, 0, 0⟩⟩
def aw2 : S32 := ⟨0, 64, 5, ⟨0, 0, 0⟩⟩
def aw3 : S32 := ⟨8, 64, 0, ⟨1, 2, 0⟩⟩
theorem aw_0 : term_Arena_Make.f 10 [] aw0 = some ([aw0], 0, 0) := by kernel_rfl
theorem aw_1 : term_Arena_Make.f 10 [aw0] aw1 = some ([aw0, aw1], 1, 0) := by kernel_rfl
theorem aw_2 : term_Arena_Make.f 10 [aw0, aw1] aw2 = some ([aw0, aw1, aw2], 2, 0) := by kernel_rfl
theorem aw_3 : term_Arena_Make.f 10 [aw0, aw1, aw2] aw3 = some ([aw0, aw1, aw2, aw3], 3, 0) := by kernel_rfl
theorem aw_4 : term_Arena_Make.f 10 [aw0, aw1, aw2, aw3] aw0 = some ([aw0, aw1, aw2, aw3], 0, 0) := by kernel_rfl
theorem aw_5 : term_Arena_Term.f 20 [aw0, aw1, aw2, aw3] 1 = some [aw0, aw1] := by kernel_rfl


attribute [local irreducible] term_Arena_Make.f term_Arena_Term.f

/-- An arena that was made since w0. -/
def St (w0 w : World) (g : Nat) (l : List S32) (m : Int) : Prop := ∃ v bm, ArenaAt w w0.heap.size (fun k => w0.heap.size ≤ k) g l m v bm ∧ Below w0.heap.size w0 w
theorem St.new (w : World) : Calls Try.prog 10 #[] w fun e w' => ∃ g, e = .returned (.pointer (some ⟨g, 0, none⟩)) ∧ St w w' g [] 0 := by
  refine (term_New.calls_at w).mono ?_
  rintro e w' ⟨g, v, bm, he, hA, hB⟩
  exact ⟨g, he, v, bm, hA, hB⟩
theorem St.make {w0 w : World} {g k : Nat} {l l' : List S32} {m r1 r2 : Int} {n : S32} (h : St w0 w g l m) (hf : term_Arena_Make.f k l n = some (l', r1, r2)) :
    Calls Try.prog 11 #[.pointer (some ⟨g, 0, none⟩), nodeV n] w fun e w' => e = .returned (.tuple #[.int .i64 r1, .int .i64 r2]) ∧ St w0 w' g l' (wrap64 (m + 1)) := by
  obtain ⟨v, bm, hA, hB⟩ := h
  refine (term_Arena_Make.calls k w0.heap.size _ g l m v bm n l' r1 r2 w hA hB.size hf).mono ?_
  rintro e w' ⟨v', he, hA', hB', hK'⟩
  exact ⟨he, v', bm, hA'.mono (fun k hk => hk.elim id (fun h => Nat.le_trans hB.size h)), hB.trans hB'⟩
theorem St.below {w0 w w' : World} {g : Nat} {l : List S32} {m : Int} (h : St w0 w g l m) (hb : Below w.heap.size w w') : St w0 w' g l m := by
  obtain ⟨v, bm, hA, hB⟩ := h
  exact ⟨v, bm, hA.below hb, below_then hB hB.size hb⟩
theorem St.len {w0 w : World} {g : Nat} {l : List S32} {m : Int} (h : St w0 w g l m) :
    Calls Try.prog 13 #[.pointer (some ⟨g, 0, none⟩)] w fun e w' => e = .returned (.int .i64 l.length) ∧ St w0 w' g l m := by
  obtain ⟨v, bm, hA, hB⟩ := h
  refine (term_Arena_Len.calls_at _ _ g l m v bm w hA).mono ?_
  rintro e w' ⟨he, hD⟩
  exact ⟨he, St.below ⟨v, bm, hA, hB⟩ hD.below⟩
theorem St.term {w0 w : World} {g k : Nat} {l r : List S32} {m i : Int} (h : St w0 w g l m) (hf : term_Arena_Term.f k l i = some r) :
    Calls Try.prog 17 #[.pointer (some ⟨g, 0, none⟩), .int .i64 i] w fun e w' => ∃ v0_, e = .returned v0_ ∧ St w0 w' g l m ∧ Kd.R k32 32 w' w.heap.size (fun _ => True) v0_ r := by
  obtain ⟨v, bm, hA, hB⟩ := h
  obtain ⟨A, c, rfl⟩ := Kd.R_slice hA.row
  refine (term_Arena_Term.calls_row k A c l i r w g (blk_cell hA.blk 0) (Kd.R_reads' hA.row).2.2 (Kd.R_reads' hA.row).2.1 hf).mono ?_
  rintro e w' ⟨v0, he, hR, hB'⟩
  exact ⟨v0, he, St.below ⟨_, bm, hA, hB⟩ hB', hR⟩

/-! ### fn: function 9 -/
def backreachlaw06_awake.f : Option Bool := some true
set_option maxHeartbeats 8000000 in
set_option maxRecDepth 100000 in
theorem backreachlaw06_awake.calls (r : Bool) (w : World) (h : backreachlaw06_awake.f = some r) :
    Calls Try.prog 9 #[] w fun e w' => e = .returned (.bool r) ∧ Below w.heap.size w w' := by
  have hr : true = r := Option.some.inj h
  subst hr
  clear h
  go_enter Try.func9, Try.ntmps9
  go_wp2_with (fail)
  go_at_call 10
  refine (St.new _).mono ?_
  rintro e w1 ⟨g, rfl, hs⟩
  have HS := Aside0.mk hs
  clear hs
  go_wp2_with (fail)
  go_at_call 11
  have q := St.make (n := aw0) HS.out aw_0
  refine q.mono ?_
  clear q
  rintro e w2 ⟨rfl, hs⟩
  have n0 := Aside0.mk hs
  clear HS hs
  have HS := n0
  clear n0
  go_wp2_with (fail)
  go_at_call 11
  have q := St.make (n := aw1) HS.out aw_1
  refine q.mono ?_
  clear q
  rintro e w2 ⟨rfl, hs⟩
  have n0 := Aside0.mk hs
  clear HS hs
  have HS := n0
  clear n0
  go_wp2_with (fail)
  go_at_call 11
  have q := St.make (n := aw2) HS.out aw_2
  refine q.mono ?_
  clear q
  rintro e w2 ⟨rfl, hs⟩
  have n0 := Aside0.mk hs
  clear HS hs
  have HS := n0
  clear n0
  go_wp2_with (fail)
  go_at_call 11
  have q := St.make (n := aw3) HS.out aw_3
  refine q.mono ?_
  clear q
  rintro e w2 ⟨rfl, hs⟩
  have n0 := Aside0.mk hs
  clear HS hs
  have HS := n0
  clear n0
  go_wp2_with (fail)
  go_at_call 11
  have q := St.make (n := aw0) HS.out aw_4
  refine q.mono ?_
  clear q
  rintro e w2 ⟨rfl, hs⟩
  have n0 := Aside0.mk hs
  clear HS hs
  have HS := n0
  clear n0
  go_wp2_with (fail)
  go_at_call 13
  have q := St.len HS.out
  refine q.mono ?_
  clear q
  rintro e w2 ⟨rfl, hs⟩
  have n0 := Aside0.mk hs
  clear HS hs
  have HS := n0
  clear n0
  go_wp2_with (fail)
  go_at_call 17
  have q := St.term HS.out aw_5
  refine q.mono ?_
  clear q
  rintro e w2 ⟨v0, rfl, hs, hR⟩
  obtain ⟨A, c, e0⟩ := Kd.R_slice hR
  subst e0
  have n0 := Aside0.mk hs
  clear HS hs hR
  have HS := n0
  clear n0
  go_wp2
  go_ret
  obtain ⟨v, bm, hA, hB⟩ := HS.out
  exact ⟨rfl, hB⟩

end Go.Proofs.Ytkindfbbklkjdaa.P
