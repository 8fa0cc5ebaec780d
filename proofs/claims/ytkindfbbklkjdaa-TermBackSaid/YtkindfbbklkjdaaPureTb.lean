/- Layer 6 (term), the plain law of telling: the term of a node, out of the arena and out of the document's list. -/
import Derived.Test.YtkindfbbklkjdaaPureP
import Derived.Test.YtkindfbbklkjdaaGg
import Derived.Test.YtkindfbbklkjdaaPx19
namespace Go.Proofs.Ytkindfbbklkjdaa.Pure
open Go.RowKit Go.Proofs.Ytkindfbbklkjdaa.P Go.Proofs.YtkindfbbklkjdaaW.PrintWords Go.Proofs.YtkindfbbklkjdaaW.PrintLast Go.Proofs.YtkindfbbklkjdaaW.PrintMore
set_option linter.unusedVariables false
set_option linter.unusedSimpArgs false

def mark0 (n : S32) (u : List Bool) : List Bool := if 0 < kidsN n.f0 then u.set n.f3.f0.toNat true else u
def mark1 (n : S32) (u : List Bool) : List Bool := if 1 < kidsN n.f0 then u.set n.f3.f1.toNat true else u
def mark2 (n : S32) (u : List Bool) : List Bool := if 2 < kidsN n.f0 then u.set n.f3.f2.toNat true else u
def markN (n : S32) (u : List Bool) : List Bool := mark2 n (mark1 n (mark0 n u))
theorem mark_len (n : S32) (u : List Bool) : (markN n u).length = u.length := by
  unfold markN mark0 mark1 mark2
  repeat' split
  all_goals simp
def sweep (L : List S32) : Nat → List Bool → List Bool
  | 0, u => u
  | i + 1, u => sweep L i (if rdOf false u (i : Int) = true then markN (rd_T32 L i) u else u)
theorem sweep_len (L : List S32) (i : Nat) : ∀ u, (sweep L i u).length = u.length := by
  induction i with
  | zero => intro u; rfl
  | succ i ih =>
    intro u
    simp only [sweep]
    rw [ih]
    split
    · exact mark_len _ _
    · rfl

theorem t1 (k : Nat) (L : List S32) (p x6 : Int) (u : List Bool) (r : List S32) (h6 : 0 ≤ x6) (h7 : x6 < L.length) (hk : kidsIn (rd_T32 L x6) u.length)
    (h : Ult (fun k => term_Arena_Term.l0 k L p (markN (rd_T32 L x6) u) (wrap64 (x6 - 1))) r) : Ult (fun k => term_Arena_Term.l1 k L p u x6 (kidsN (rd_T32 L x6).f0) 0) r := by
  obtain ⟨h0, h1, h2⟩ := hk
  have hr := kidsN_range (rd_T32 L x6).f0
  have hc : kidsN (rd_T32 L x6).f0 = 0 ∨ kidsN (rd_T32 L x6).f0 = 1 ∨ kidsN (rd_T32 L x6).f0 = 2 ∨ kidsN (rd_T32 L x6).f0 = 3 := by omega
  unfold markN mark0 mark1 mark2 at h
  refine Ult.step 4 (f := fun k => term_Arena_Term.l0 (k + (3 - (kidsN (rd_T32 L x6).f0).toNat)) L p (mark2 (rd_T32 L x6) (mark1 (rd_T32 L x6) (mark0 (rd_T32 L x6) u))) (wrap64 (x6 - 1))) (fun k => ?_) (h.later _)
  unfold mark0 mark1 mark2
  rcases hc with e | e | e | e
  · simp [term_Arena_Term.l1, e]
  · have a0 := h0 (by omega)
    simp [term_Arena_Term.l1, e, a0, h6, h7, wrap64]
  · have a0 := h0 (by omega)
    have a1 := h1 (by omega)
    simp [term_Arena_Term.l1, e, a0, a1, h6, h7, wrap64]
  · have a0 := h0 (by omega)
    have a1 := h1 (by omega)
    have a2 := h2 (by omega)
    simp [term_Arena_Term.l1, e, a0, a1, a2, h6, h7, wrap64]

theorem Good.kids {L : List S32} (h : Good L) (j : Nat) (hj : j < L.length) : kidsIn (rd_T32 L j) j := by
  have := right_kids _ _ (h.right j hj)
  rwa [List.length_take, Nat.min_eq_left (by omega)] at this
theorem kidsIn_mono {n : S32} {a b : Nat} (h : kidsIn n a) (hab : a ≤ b) : kidsIn n b := by
  obtain ⟨x, y, z⟩ := h
  exact ⟨fun h => ⟨(x h).1, by have := (x h).2; omega⟩, fun h => ⟨(y h).1, by have := (y h).2; omega⟩, fun h => ⟨(z h).1, by have := (z h).2; omega⟩⟩

theorem sweep_term (L : List S32) (hL : Good L) (p : Int) (r : List S32) (i : Nat) : ∀ u : List Bool, i ≤ u.length → u.length ≤ L.length →
    Ult (fun k => term_Arena_Term.l0 k L p (sweep L i u) (-1)) r → Ult (fun k => term_Arena_Term.l0 k L p u ((i : Int) - 1)) r := by
  induction i with
  | zero => intro u _ _ h; exact h
  | succ i ih =>
    intro u hi hu h
    have hs := hL.size
    simp only [sweep] at h
    have hx : ((i + 1 : Nat) : Int) - 1 = (i : Int) := by omega
    have hw : wrap64 ((i : Int) - 1) = (i : Int) - 1 := by unfold wrap64; omega
    rw [hx]
    by_cases hb : rdOf false u (i : Int) = true
    · rw [if_pos hb] at h
      refine Ult.step (f := fun k => (term_Kids.f k ((rd_T32 L i).f0)).bind fun t134 => term_Arena_Term.l1 k L p u (i : Int) t134 0) 1 (fun k => ?_) ?_
      · simp only [term_Arena_Term.l0]
        rw [if_pos (by omega), if_pos (by omega), if_pos (by omega), if_pos hb, if_pos (by omega)]
      · refine Ult.bind (kids_term _) (t1 0 L p (i : Int) u r (by omega) (by omega) (kidsIn_mono (hL.kids i (by omega)) (by omega)) ?_)
        rw [hw]
        exact ih _ (by rw [mark_len]; omega) (by rw [mark_len]; omega) h
    · rw [if_neg hb] at h
      refine Ult.step (f := fun k => term_Arena_Term.l0 k L p u ((i : Int) - 1)) 1 (fun k => ?_) (ih u (by omega) hu h)
      simp only [term_Arena_Term.l0]
      rw [if_pos (by omega), if_pos (by omega), if_pos (by omega), if_neg hb, hw]

/-- What is told, from place i on. -/
def tell (L : List S32) (u : List Bool) : Nat → Nat → List Int → List S32 → List S32
  | 0, _, _, out => out
  | d + 1, i, tt, out => if rdOf false u (i : Int) = true then tell L u d (i + 1) (tt.set i (out.length : Int)) (out ++ [movedN (rd_T32 L i) (tt.set i (out.length : Int))]) else tell L u d (i + 1) tt out

theorem tell_term (L : List S32) (hL : Good L) (u : List Bool) (hu : u.length ≤ L.length) (d : Nat) : ∀ (i : Nat) (tt : List Int) (out : List S32), i + d = u.length → tt.length = u.length → out.length ≤ i →
    Ult (fun k => term_Arena_Term.l2 k L tt out u (u.length : Int) (i : Int)) (tell L u d i tt out) := by
  have hs := hL.size
  induction d with
  | zero =>
    intro i tt out hi ht ho
    exact ⟨1, fun k hk => by obtain ⟨k, rfl⟩ : ∃ m, k = m + 1 := ⟨k - 1, by omega⟩; simp only [term_Arena_Term.l2]; rw [if_neg (by omega)]; rfl⟩
  | succ d ih =>
    intro i tt out hi ht ho
    have hw : wrap64 ((i : Int) + 1) = ((i + 1 : Nat) : Int) := by unfold wrap64; omega
    simp only [tell]
    by_cases hb : rdOf false u (i : Int) = true
    · rw [if_pos hb]
      refine Ult.step (f := fun k => (term_moved.f k ((rd_T32 L i).f0) ((rd_T32 L i).f1) ((rd_T32 L i).f2) ((rd_T32 L i).f3.f0) ((rd_T32 L i).f3.f1) ((rd_T32 L i).f3.f2) (tt.set i (out.length : Int))).bind fun bt145 => (term_Arena_Term.l2 k L (tt.set i (out.length : Int)) (out ++ [(⟨bt145.1, bt145.2.1, bt145.2.2.1, (⟨bt145.2.2.2.1, bt145.2.2.2.2.1, bt145.2.2.2.2.2⟩ : S30)⟩ : S32)]) u (u.length : Int) ((i + 1 : Nat) : Int))) 1 (fun k => ?_) ?_
      · simp only [term_Arena_Term.l2]
        rw [if_pos (by omega), if_pos (by omega), if_pos (by omega), if_pos hb, if_pos (by omega), hw, Int.toNat_natCast]
        simp only [Option.bind_some]
        simp only [if_pos (show (i : Int) < (L.length : Int) by omega), if_pos (show out.length < 2932031007402 by omega)]
      · refine Ult.bind (moved_eq (rd_T32 L i) (tt.set i (out.length : Int)) (kidsIn_mono (hL.kids i (by omega)) (by simp; omega))) ?_
        exact ih (i + 1) _ _ (by omega) (by simpa using ht) (by simp; omega)
    · rw [if_neg hb]
      refine Ult.step (f := fun k => term_Arena_Term.l2 k L tt out u (u.length : Int) ((i + 1 : Nat) : Int)) 1 (fun k => ?_) (ih (i + 1) tt out (by omega) ht (by omega))
      simp only [term_Arena_Term.l2]
      rw [if_pos (by omega), if_pos (by omega), if_pos (by omega), if_neg hb, hw]

/-- The marks of a node's term; the term. -/
def marks (L : List S32) (p : Nat) : List Bool := sweep L (p + 1) ((List.replicate (p + 1) false).set p true)
def termN (L : List S32) (p : Int) : List S32 := if p < 0 ∨ p ≥ L.length then [] else tell L (marks L p.toNat) (p.toNat + 1) 0 (List.replicate (p.toNat + 1) 0) []
theorem marks_len (L : List S32) (p : Nat) : (marks L p).length = p + 1 := by unfold marks; rw [sweep_len]; simp

theorem term_term (L : List S32) (hL : Good L) (p : Int) : Ult (fun k => term_Arena_Term.f k L p) (termN L p) := by
  have hs := hL.size
  unfold termN
  have out : Ult (fun k => term_Arena_Term.j0 k L p true) [] := ⟨1, fun k hk => by obtain ⟨k, rfl⟩ : ∃ m, k = m + 1 := ⟨k - 1, by omega⟩; simp [term_Arena_Term.j0]⟩
  simp only [term_Arena_Term.f]
  by_cases hp : p < 0
  · rw [if_pos (Or.inl hp)]
    simp only [if_pos hp]
    exact out
  · simp only [if_neg hp]
    by_cases hq : p ≥ L.length
    · rw [if_pos (Or.inr hq)]
      simp only [decide_eq_true hq]
      exact out
    · rw [if_neg (by omega)]
      simp only [decide_eq_false hq]
      obtain ⟨n, rfl⟩ : ∃ n : Nat, p = n := ⟨p.toNat, by omega⟩
      simp only [Int.toNat_natCast]
      have hw : wrap64 ((n : Int) + 1) = ((n + 1 : Nat) : Int) := by unfold wrap64; omega
      refine Ult.step (f := fun k => term_Arena_Term.l0 k L (n : Int) ((List.replicate (n + 1) false).set n true) (n : Int)) 1 (fun k => ?_) ?_
      · simp only [term_Arena_Term.j0, Bool.false_eq_true, if_false, hw, Int.toNat_natCast, Option.bind_some]
        rw [if_pos (by omega), if_pos (by omega), if_pos (by omega), if_pos (by simp; omega)]
      · have hn : (n : Int) = ((n + 1 : Nat) : Int) - 1 := by omega
        rw [show (fun k => term_Arena_Term.l0 k L (n : Int) ((List.replicate (n + 1) false).set n true) (n : Int)) = (fun k => term_Arena_Term.l0 k L (n : Int) ((List.replicate (n + 1) false).set n true) (((n + 1 : Nat) : Int) - 1)) from by rw [← hn]]
        refine sweep_term L hL (n : Int) _ (n + 1) _ (by simp) (by simp; omega) ?_
        refine Ult.step (f := fun k => term_Arena_Term.l2 k L (List.replicate (n + 1) 0) [] (marks L n) ((marks L n).length : Int) 0) 1 (fun k => ?_) ?_
        · simp only [term_Arena_Term.l0]
          rw [if_neg (by omega), hw, if_pos (by omega), if_pos (by rw [Int.toNat_natCast]; omega), Int.toNat_natCast]
          rfl
        · have := tell_term L hL (marks L n) (by rw [marks_len]; omega) (n + 1) 0 (List.replicate (n + 1) 0) [] (by rw [marks_len]; omega) (by rw [marks_len]; simp) (by simp)
          exact this

theorem rdOf_set (u : List Bool) (i j : Nat) (h : rdOf false u (i : Int) = true) : rdOf false (u.set j true) (i : Int) = true := by
  unfold rdOf at *
  rw [Int.toNat_natCast] at *
  rw [List.getD_eq_getElem?_getD] at *
  rw [List.getElem?_set]
  split
  · split
    · rfl
    · rename_i h1 h2
      subst h1
      rw [List.getElem?_eq_none (by omega)] at h
      exact h
  · exact h

theorem mark_take (n : S32) (u : List Bool) (m : Nat) : (markN n u).take m = markN n (u.take m) := by
  unfold markN mark0 mark1 mark2
  repeat' split
  all_goals simp only [List.take_set]
theorem rdOf_take (u : List Bool) (i m : Nat) (h : i < m) : rdOf false (u.take m) (i : Int) = rdOf false u (i : Int) := by
  unfold rdOf
  rw [Int.toNat_natCast, List.getD_eq_getElem?_getD, List.getD_eq_getElem?_getD, List.getElem?_take, if_pos h]
theorem sweep_take (L : List S32) (m i : Nat) (hi : i ≤ m) : ∀ u, (sweep L i u).take m = sweep L i (u.take m) := by
  induction i with
  | zero => intro u; rfl
  | succ i ih =>
    intro u
    simp only [sweep]
    rw [ih (by omega), rdOf_take u i m (by omega)]
    split
    · rw [mark_take]
    · rfl
theorem tell_take (L : List S32) (hL : Good L) (u : List Bool) (m : Nat) (hm : m ≤ L.length) (d : Nat) : ∀ (i : Nat) (tt : List Int) (out : List S32), i + d ≤ m → tell L u d i tt out = tell L (u.take m) d i (tt.take m) out := by
  induction d with
  | zero => intro i tt out _; rfl
  | succ d ih =>
    intro i tt out hi
    simp only [tell]
    rw [rdOf_take u i m (by omega)]
    have e : (tt.take m).set i (out.length : Int) = (tt.set i (out.length : Int)).take m := by rw [List.take_set]
    rw [e, moved_take _ (tt.set i (out.length : Int)) m (kidsIn_mono (hL.kids i (by omega)) (by omega))]
    split
    · exact ih (i + 1) _ _ (by omega)
    · exact ih (i + 1) _ _ (by omega)

theorem same_from (l : List S32) (hs : l.length < 4611686018427387904) (d : Nat) : ∀ i : Nat, i + d = l.length → Ult (fun k => backreachref06_Same.l0 k l l (i : Int)) true := by
  induction d with
  | zero =>
    intro i hi
    exact ⟨1, fun k hk => by obtain ⟨k, rfl⟩ : ∃ m, k = m + 1 := ⟨k - 1, by omega⟩; simp only [backreachref06_Same.l0]; rw [if_neg (by omega)]⟩
  | succ d ih =>
    intro i hi
    have hw : wrap64 ((i : Int) + 1) = ((i + 1 : Nat) : Int) := by unfold wrap64; omega
    refine Ult.step (f := fun k => backreachref06_Same.l0 k l l ((i + 1 : Nat) : Int)) 1 (fun k => ?_) (ih (i + 1) (by omega))
    simp only [backreachref06_Same.l0]
    rw [if_pos (by omega), if_pos (by omega), if_pos (by omega), if_neg (by simp), hw]
theorem same_self (l : List S32) (hs : l.length < 4611686018427387904) : Ult (fun k => backreachref06_Same.f k l l) true := by
  simp only [backreachref06_Same.f]
  simp only [if_true]
  exact same_from l hs l.length 0 (by omega)

theorem tell_len (L : List S32) (u : List Bool) (d : Nat) : ∀ (i : Nat) (tt : List Int) (out : List S32), (tell L u d i tt out).length ≤ out.length + d := by
  induction d with
  | zero => intro i tt out; simp [tell]
  | succ d ih =>
    intro i tt out
    simp only [tell]
    split
    · have := ih (i + 1) (tt.set i (out.length : Int)) (out ++ [movedN (rd_T32 L i) (tt.set i (out.length : Int))])
      simp at this
      omega
    · have := ih (i + 1) tt out
      omega
theorem termN_len (L : List S32) (p : Int) : (termN L p).length ≤ L.length := by
  unfold termN
  split
  · simp
  · have := tell_len L (marks L p.toNat) (p.toNat + 1) 0 (List.replicate (p.toNat + 1) 0) []
    simp at this
    omega

end Go.Proofs.Ytkindfbbklkjdaa.Pure
