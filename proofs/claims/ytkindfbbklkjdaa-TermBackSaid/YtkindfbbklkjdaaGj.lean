/- An arena apart from rows: what the walks of the laws of layer 6 hold on to. -/
import Derived.Test.YtkindfbbklkjdaaGi
import Derived.Test.YtkindfbbklkjdaaGh
namespace Go.Proofs.Ytkindfbbklkjdaa.P
open Go.RowKit Go.Proofs.YtkindfbbklkjdaaW.PrintWords Go.Proofs.YtkindfbbklkjdaaW.PrintLast Go.Proofs.YtkindfbbklkjdaaW.PrintMore
set_option linter.unusedVariables false
set_option linter.unusedSimpArgs false

/-- An arena that was made since w0, apart from the blocks X. -/
def Ar (w0 w : World) (g : Nat) (L : List S32) (m : Int) (X : Nat → Prop) : Prop :=
  ∃ v bm, ArenaAt w w0.heap.size (fun k => w0.heap.size ≤ k ∧ k < w.heap.size ∧ ¬ X k) g L m v bm ∧ Below w0.heap.size w0 w

theorem Ar.tight {w0 w : World} {base : Nat} {P X : Nat → Prop} {g : Nat} {L : List S32} {m : Int} {v : Value} {bm : Nat} (h : ArenaAt w w0.heap.size P g L m v bm) (hB : Below w0.heap.size w0 w) (hx : ∀ k, P k → k < w.heap.size → ¬ X k) : Ar w0 w g L m X := by
  refine ⟨v, bm, h.tight.mono (fun k hk => ?_), hB⟩
  rcases hk with rfl | rfl | hk
  · exact ⟨h.leg, blk_lt h.blk, hx k h.okg (blk_lt h.blk)⟩
  · exact ⟨h.lem, blk_lt h.mp, hx k h.okm (blk_lt h.mp)⟩
  · exact ⟨Kd.R_base h.row k hk.symm, Kd.R_lt h.row k hk.symm, hx k (h.row.1 k hk.symm) (Kd.R_lt h.row k hk.symm)⟩

theorem Ar.new (w0 w : World) (hB : Below w0.heap.size w0 w) (X : Nat → Prop) (hX : ∀ k, X k → k < w.heap.size) :
    Calls Try.prog 10 #[] w fun e w' => ∃ g, e = .returned (.pointer (some ⟨g, 0, none⟩)) ∧ Ar w0 w' g [] 0 X ∧ Below w.heap.size w w' := by
  refine (term_New.calls_at w).mono ?_
  rintro e w' ⟨g, v, bm, he, hA, hb⟩
  exact ⟨g, he, Ar.tight (base := 0) (hA.lower hB.size) (below_then hB hB.size hb) (fun k hk _ hx => by have := hX k hx; omega), hb⟩

/-- What an arena's own calls may write. -/
def Own (w0 w : World) (X : Nat → Prop) (k : Nat) : Prop := w0.heap.size ≤ k ∧ k < w.heap.size ∧ ¬ X k

theorem Ar.below {w0 w w' : World} {g : Nat} {L : List S32} {m : Int} {X : Nat → Prop} (h : Ar w0 w g L m X) (hb : Below w.heap.size w w') : Ar w0 w' g L m X := by
  obtain ⟨v, bm, hA, hB⟩ := h
  exact Ar.tight (base := 0) (hA.below hb) (below_then hB hB.size hb) (fun k hk _ => hk.2.2)
/-- Other blocks are written, which lay in X or are new. -/
theorem Ar.other {w0 w w' : World} {g : Nat} {L : List S32} {m : Int} {X X' S : Nat → Prop} (h : Ar w0 w g L m X) (hk : Kept w w' S) (hS : ∀ k, S k → X k) (hB' : Below w0.heap.size w0 w') (hX : ∀ k, X' k → X k ∨ w.heap.size ≤ k) : Ar w0 w' g L m X' := by
  obtain ⟨v, bm, hA, hB⟩ := h
  exact Ar.tight (base := 0) (hA.kept hk (fun k hk hs => hk.2.2 (hS k hs))) hB' (fun k hk _ hx => (hX k hx).elim hk.2.2 (fun h => by have := hk.2.1; omega))

theorem Ar.make {w0 w : World} {g k : Nat} {L L' : List S32} {m r1 r2 : Int} {X : Nat → Prop} {n : S32} (h : Ar w0 w g L m X) (hX : ∀ k, X k → k < w.heap.size) (hf : term_Arena_Make.f k L n = some (L', r1, r2)) :
    Calls Try.prog 11 #[.pointer (some ⟨g, 0, none⟩), nodeV n] w fun e w' => e = .returned (.tuple #[.int .i64 r1, .int .i64 r2]) ∧ Ar w0 w' g L' (wrap64 (m + 1)) X ∧ Below w0.heap.size w0 w' ∧ Kept w w' (Own w0 w X) := by
  obtain ⟨v, bm, hA, hB⟩ := h
  refine (term_Arena_Make.calls k w0.heap.size _ g L m v bm n L' r1 r2 w hA hB.size hf).mono ?_
  rintro e w' ⟨v', he, hA', hB', hK'⟩
  exact ⟨he, Ar.tight (base := 0) hA' (hB.trans hB') (fun k hk _ hx => hk.elim (fun h => h.2.2 hx) (fun h => by have := hX k hx; omega)), hB.trans hB', hK'⟩
theorem Ar.put {w0 w : World} {g k : Nat} {L L' l : List S32} {m m' r1 r2 : Int} {X : Nat → Prop} {A : Option Addr} {c : Nat} (h : Ar w0 w g L m X) (hX : ∀ k, X k → k < w.heap.size) (hr : ∀ W, Kept w W (Own w0 w X) → Kd.C k32 W A l.length l) (hc : l.length ≤ c) (hf : term_Arena_Put.f k L m l = some (L', m', r1, r2)) :
    Calls Try.prog 23 #[.pointer (some ⟨g, 0, none⟩), .slice A l.length c] w fun e w' => e = .returned (.tuple #[.int .i64 r1, .int .i64 r2]) ∧ Ar w0 w' g L' m' X ∧ Below w0.heap.size w0 w' ∧ Kept w w' (Own w0 w X) := by
  obtain ⟨v, bm, hA, hB⟩ := h
  refine (term_Arena_Put.calls k w0.heap.size _ g L m v bm A c l L' m' r1 r2 w hA hB.size hr hc hf).mono ?_
  rintro e w' ⟨v', he, hA', hB', hK'⟩
  exact ⟨he, Ar.tight (base := 0) hA' (hB.trans hB') (fun k hk _ hx => hk.elim (fun h => h.2.2 hx) (fun h => by have := hX k hx; omega)), hB.trans hB', hK'⟩
theorem Ar.len {w0 w : World} {g : Nat} {L : List S32} {m : Int} {X : Nat → Prop} (h : Ar w0 w g L m X) : Calls Try.prog 13 #[.pointer (some ⟨g, 0, none⟩)] w fun e w' => e = .returned (.int .i64 L.length) ∧ Drawn0 w w' := by
  obtain ⟨v, bm, hA, hB⟩ := h
  exact term_Arena_Len.calls_at _ _ g L m v bm w hA
theorem Ar.asked {w0 w : World} {g : Nat} {L : List S32} {m : Int} {X : Nat → Prop} (h : Ar w0 w g L m X) : Calls Try.prog 14 #[.pointer (some ⟨g, 0, none⟩)] w fun e w' => e = .returned (.int .i64 m) ∧ Drawn0 w w' := by
  obtain ⟨v, bm, hA, hB⟩ := h
  exact term_Arena_Asked.calls_at _ _ g L m v bm w hA
theorem Ar.term {w0 w : World} {g k : Nat} {L r : List S32} {m i : Int} {X : Nat → Prop} (h : Ar w0 w g L m X) (hf : term_Arena_Term.f k L i = some r) :
    Calls Try.prog 17 #[.pointer (some ⟨g, 0, none⟩), .int .i64 i] w fun e w' => ∃ v0_, e = .returned v0_ ∧ Below w.heap.size w w' ∧ Kd.R k32 32 w' w.heap.size (fun _ => True) v0_ r := by
  obtain ⟨v, bm, hA, hB⟩ := h
  obtain ⟨A, c, rfl⟩ := Kd.R_slice hA.row
  refine (term_Arena_Term.calls_row k A c L i r w g (blk_cell hA.blk 0) (Kd.R_reads' hA.row).2.2 (Kd.R_reads' hA.row).2.1 hf).mono ?_
  rintro e w' ⟨v0, he, hR, hB'⟩
  exact ⟨v0, he, hB', hR⟩

theorem cell_same {w W : World} {a : Addr} (h : W.heap[a.block]? = w.heap[a.block]?) : W.cell? a = w.cell? a := by
  unfold World.cell?
  rw [h]
/-- What came in stays readable, whatever is written that was made since. -/
theorem C_keeps {w0 w W : World} {A : Option Addr} {n : Nat} {l : List S32} {S : Nat → Prop} (h : Kd.C k32 w0 A n l) (hB : Below w0.heap.size w0 w) (hk : Kept w W S) (hS : ∀ k, S k → w0.heap.size ≤ k) : Kd.C k32 W A n l := by
  refine ⟨h.1, h.2.1, fun hn => ?_⟩
  obtain ⟨ad, e, hc⟩ := h.2.2 hn
  refine ⟨ad, e, fun j p hj => ?_⟩
  obtain ⟨c, hs, hr, hcell⟩ := hc j p hj
  refine ⟨c, hs, ?_, fun i u hu => ?_⟩
  · rw [k32_open hr]; exact k32_mk W p
  · have h1 := hcell i u hu
    have hlt := World.block_lt_of_cell? w0 _ h1
    have h2 : W.heap[(ad.add (j * k32.sz + i)).block]? = w0.heap[(ad.add (j * k32.sz + i)).block]? :=
      (hk.2 _ (Nat.lt_of_lt_of_le hlt hB.size) (fun hs => by have := hS _ hs; omega)).trans (hB.block _ hlt)
    exact (cell_same h2).trans h1

end Go.Proofs.Ytkindfbbklkjdaa.P
