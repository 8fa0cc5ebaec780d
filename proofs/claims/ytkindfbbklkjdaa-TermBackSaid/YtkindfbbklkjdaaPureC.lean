/- Layer 6 (term), the plain law of telling, more: what a told term is like. -/
import Derived.Test.YtkindfbbklkjdaaPureB
namespace Go.Proofs.Ytkindfbbklkjdaa.Pure
open Go.RowKit Go.Proofs.Ytkindfbbklkjdaa.P Go.Proofs.YtkindfbbklkjdaaW.PrintWords Go.Proofs.YtkindfbbklkjdaaW.PrintLast Go.Proofs.YtkindfbbklkjdaaW.PrintMore
set_option linter.unusedVariables false
set_option linter.unusedSimpArgs false

theorem nodup_inj {l : List S32} (h : l.Nodup) {i j : Nat} {hi : i < l.length} {hj : j < l.length} (e : l[i] = l[j]) : i = j := by
  have hp := List.pairwise_iff_getElem.1 h
  rcases Nat.lt_trichotomy i j with a | a | a
  · exact absurd e (hp i j hi hj a)
  · exact a
  · exact absurd e.symm (hp j i hj hi a)
theorem rdOf_setOnly (u : List Bool) (i j : Nat) (h : rdOf false (u.set i true) (j : Int) = true) : rdOf false u (j : Int) = true ∨ i = j := by
  by_cases e : i = j
  · exact .inr e
  · left
    unfold rdOf at *
    rw [Int.toNat_natCast, List.getD_eq_getElem?_getD] at *
    rwa [List.getElem?_set_ne e] at h
theorem rdOf_setAt (u : List Bool) (i : Nat) (h : i < u.length) : rdOf false (u.set i true) (i : Int) = true := by
  unfold rdOf
  rw [Int.toNat_natCast, List.getD_eq_getElem?_getD, List.getElem?_set_self h]
  rfl
theorem mark_only (n : S32) (u : List Bool) (j m : Nat) (hk : kidsIn n m) (h : rdOf false (markN n u) (j : Int) = true) : rdOf false u (j : Int) = true ∨ isKid n (j : Int) := by
  unfold markN mark2 at h
  have s1 : rdOf false (mark1 n (mark0 n u)) (j : Int) = true ∨ isKid n (j : Int) := by
    split at h
    · rename_i e
      rcases rdOf_setOnly _ _ _ h with h | h
      · exact .inl h
      · exact .inr (.inr (.inr ⟨e, by have := hk.2.2 e; omega⟩))
    · exact .inl h
  rcases s1 with s1 | s1
  case inr => exact .inr s1
  unfold mark1 at s1
  have s2 : rdOf false (mark0 n u) (j : Int) = true ∨ isKid n (j : Int) := by
    split at s1
    · rename_i e
      rcases rdOf_setOnly _ _ _ s1 with h | h
      · exact .inl h
      · exact .inr (.inr (.inl ⟨e, by have := hk.2.1 e; omega⟩))
    · exact .inl s1
  rcases s2 with s2 | s2
  case inr => exact .inr s2
  unfold mark0 at s2
  split at s2
  · rename_i e
    rcases rdOf_setOnly _ _ _ s2 with h | h
    · exact .inl h
    · exact .inr (.inl ⟨e, by have := hk.1 e; omega⟩)
  · exact .inl s2
theorem mark0_len (n : S32) (u : List Bool) : (mark0 n u).length = u.length := by unfold mark0; split <;> simp
theorem mark1_len (n : S32) (u : List Bool) : (mark1 n u).length = u.length := by unfold mark1; split <;> simp
theorem mark1_keeps (n : S32) (u : List Bool) (j : Nat) (h : rdOf false u (j : Int) = true) : rdOf false (mark1 n u) (j : Int) = true := by
  unfold mark1; split
  · exact rdOf_set _ _ _ h
  · exact h
theorem mark2_keeps (n : S32) (u : List Bool) (j : Nat) (h : rdOf false u (j : Int) = true) : rdOf false (mark2 n u) (j : Int) = true := by
  unfold mark2; split
  · exact rdOf_set _ _ _ h
  · exact h
theorem mark_kid (n : S32) (u : List Bool) (hk : kidsIn n u.length) (c : Int) (h : isKid n c) : rdOf false (markN n u) c = true := by
  have hc := hk.kid h
  obtain ⟨x, rfl⟩ : ∃ x : Nat, c = x := ⟨c.toNat, by omega⟩
  unfold markN
  rcases h with ⟨a, e⟩ | ⟨a, e⟩ | ⟨a, e⟩
  · refine mark2_keeps _ _ _ (mark1_keeps _ _ _ ?_)
    unfold mark0
    rw [if_pos a, e, Int.toNat_natCast]
    exact rdOf_setAt _ _ (by omega)
  · refine mark2_keeps _ _ _ ?_
    unfold mark1
    rw [if_pos a, e, Int.toNat_natCast]
    exact rdOf_setAt _ _ (by rw [mark0_len]; omega)
  · unfold mark2
    rw [if_pos a, e, Int.toNat_natCast]
    exact rdOf_setAt _ _ (by rw [mark1_len, mark0_len]; omega)

/-- Where a node is marked its kids are. -/
def Closed (L : List S32) (u : List Bool) : Prop := ∀ j : Nat, j < u.length → rdOf false u (j : Int) = true → ∀ c, isKid (rd_T32 L (j : Int)) c → rdOf false u c = true
theorem sweep_closed (L : List S32) (hL : Good L) (i : Nat) : ∀ u : List Bool, i ≤ u.length → u.length ≤ L.length →
    (∀ j : Nat, i ≤ j → j < u.length → rdOf false u (j : Int) = true → ∀ c, isKid (rd_T32 L (j : Int)) c → rdOf false u c = true) → Closed L (sweep L i u) := by
  induction i with
  | zero => intro u _ _ h j hj hb c hc; exact h j (by omega) hj hb c hc
  | succ i ih =>
    intro u hi hu h
    simp only [sweep]
    have hki := hL.kids i (by omega)
    by_cases hb : rdOf false u (i : Int) = true
    · rw [if_pos hb]
      refine ih _ (by rw [mark_len]; omega) (by rw [mark_len]; omega) (fun j h1 h2 h3 c hc => ?_)
      rw [mark_len] at h2
      by_cases e : j = i
      · subst e; exact mark_kid _ _ (kidsIn_mono hki (by omega)) c hc
      · rcases mark_only _ _ _ _ hki h3 with h3 | h3
        · have hcc := (hL.kids j (by omega)).kid hc
          obtain ⟨x, rfl⟩ : ∃ x : Nat, c = x := ⟨c.toNat, by omega⟩
          exact mark_keeps _ _ _ (h j (by omega) h2 h3 _ hc)
        · have := hki.kid h3; omega
    · rw [if_neg hb]
      refine ih _ (by omega) hu (fun j h1 h2 h3 c hc => ?_)
      by_cases e : j = i
      · subst e; exact absurd h3 hb
      · exact h j (by omega) h2 h3 c hc
/-- What is marked is the root, or a kid of what is marked. -/
def Par (L : List S32) (p : Nat) (u : List Bool) : Prop := ∀ j : Nat, rdOf false u (j : Int) = true → j = p ∨ ∃ j' : Nat, j < j' ∧ j' < u.length ∧ rdOf false u (j' : Int) = true ∧ isKid (rd_T32 L (j' : Int)) (j : Int)
theorem sweep_par (L : List S32) (hL : Good L) (p : Nat) (i : Nat) : ∀ u : List Bool, i ≤ u.length → u.length ≤ L.length → Par L p u → Par L p (sweep L i u) := by
  induction i with
  | zero => intro u _ _ h; exact h
  | succ i ih =>
    intro u hi hu h
    simp only [sweep]
    have hki := hL.kids i (by omega)
    by_cases hb : rdOf false u (i : Int) = true
    · rw [if_pos hb]
      refine ih _ (by rw [mark_len]; omega) (by rw [mark_len]; omega) (fun j hj => ?_)
      rcases mark_only _ _ _ _ hki hj with hj | hj
      · rcases h j hj with h | ⟨j', a, a', b, c⟩
        · exact .inl h
        · exact .inr ⟨j', a, by rw [mark_len]; exact a', mark_keeps _ _ _ b, c⟩
      · have := hki.kid hj
        exact .inr ⟨i, by omega, by rw [mark_len]; omega, mark_keeps _ _ _ hb, hj⟩
    · rw [if_neg hb]
      exact ih _ (by omega) hu h
theorem marks_closed (L : List S32) (hL : Good L) (p : Nat) (hp : p < L.length) : Closed L (marks L p) := by
  unfold marks
  refine sweep_closed L hL (p + 1) _ (by simp) (by simp; omega) (fun j h1 h2 => ?_)
  simp at h2
  omega
theorem marks_par (L : List S32) (hL : Good L) (p : Nat) (hp : p < L.length) : Par L p (marks L p) := by
  unfold marks
  refine sweep_par L hL p (p + 1) _ (by simp) (by simp; omega) (fun j h => ?_)
  rcases rdOf_setOnly _ _ _ h with h | h
  · exfalso
    unfold rdOf at h
    rw [Int.toNat_natCast, List.getD_eq_getElem?_getD, List.getElem?_replicate] at h
    split at h <;> simp at h
  · exact .inl h.symm

theorem rd_setNe (tt : List Int) (i j : Nat) (x : Int) (h : i ≠ j) : rd (tt.set i x) (j : Int) = rd tt (j : Int) := by
  unfold rd
  rw [Int.toNat_natCast, List.getD_eq_getElem?_getD, List.getD_eq_getElem?_getD, List.getElem?_set_ne h]
theorem rd_setAt (tt : List Int) (i : Nat) (x : Int) (h : i < tt.length) : rd (tt.set i x) (i : Int) = x := by
  unfold rd
  rw [Int.toNat_natCast, List.getD_eq_getElem?_getD, List.getElem?_set_self h]
  rfl

/-- A term as it is told: where each node of the arena that is marked stands in it. -/
structure Told (L : List S32) (u : List Bool) (i : Nat) (tt : List Int) (out : List S32) : Prop where
  tlen : tt.length = u.length
  olen : out.length ≤ i
  at_ : ∀ j : Nat, j < i → rdOf false u (j : Int) = true → 0 ≤ rd tt (j : Int) ∧ rd tt (j : Int) < out.length ∧ rd_T32 out (rd tt (j : Int)) = movedN (rd_T32 L (j : Int)) tt
  onto : ∀ k : Nat, k < out.length → ∃ j : Nat, j < i ∧ rdOf false u (j : Int) = true ∧ rd tt (j : Int) = k
  up : ∀ j1 j2 : Nat, j1 < j2 → j2 < i → rdOf false u (j1 : Int) = true → rdOf false u (j2 : Int) = true → rd tt (j1 : Int) < rd tt (j2 : Int)

theorem tell_told (L : List S32) (hL : Good L) (u : List Bool) (hu : u.length ≤ L.length) (d : Nat) : ∀ (i : Nat) (tt : List Int) (out : List S32), i + d = u.length → Told L u i tt out →
    ∃ ta, Told L u u.length ta (tell L u d i tt out) := by
  induction d with
  | zero =>
    intro i tt out hi h
    obtain rfl : i = u.length := by omega
    exact ⟨tt, h⟩
  | succ d ih =>
    intro i tt out hi h
    simp only [tell]
    by_cases hb : rdOf false u (i : Int) = true
    · rw [if_pos hb]
      have hcong : ∀ j : Nat, j ≤ i → movedN (rd_T32 L (j : Int)) (tt.set i (out.length : Int)) = movedN (rd_T32 L (j : Int)) tt := fun j hj => by
        refine moved_congr _ _ _ (fun c hc => ?_)
        have hcc := (hL.kids j (by omega)).kid hc
        obtain ⟨x, rfl⟩ : ∃ x : Nat, c = x := ⟨c.toNat, by omega⟩
        exact rd_setNe _ _ _ _ (by omega)
      have hti : i < tt.length := by rw [h.tlen]; omega
      refine ih (i + 1) _ _ (by omega) ⟨by rw [List.length_set]; exact h.tlen, by rw [List.length_append, List.length_singleton]; have := h.olen; omega, fun j hj hm => ?_, fun k hk => ?_, fun j1 j2 h1 h2 m1 m2 => ?_⟩
      · by_cases e : j = i
        · subst e
          rw [rd_setAt _ _ _ hti]
          refine ⟨by omega, by rw [List.length_append, List.length_singleton]; omega, ?_⟩
          exact rd_last _ _
        · obtain ⟨a, b, c⟩ := h.at_ j (by omega) hm
          rw [rd_setNe _ _ _ _ (by omega), hcong j (by omega)]
          refine ⟨a, by rw [List.length_append]; omega, ?_⟩
          obtain ⟨x, hx⟩ : ∃ x : Nat, rd tt (j : Int) = x := ⟨(rd tt (j : Int)).toNat, by omega⟩
          rw [hx] at b c ⊢
          rw [rd_ext _ _ _ (by omega)]
          exact c
      · rw [List.length_append, List.length_singleton] at hk
        by_cases e : k = out.length
        · exact ⟨i, by omega, hb, by rw [rd_setAt _ _ _ hti, e]⟩
        · obtain ⟨j, a, b, c⟩ := h.onto k (by omega)
          exact ⟨j, by omega, b, by rw [rd_setNe _ _ _ _ (by omega)]; exact c⟩
      · by_cases e : j2 = i
        · subst e
          rw [rd_setAt _ _ _ hti, rd_setNe _ _ _ _ (by omega)]
          exact (h.at_ j1 h1 m1).2.1
        · rw [rd_setNe _ _ _ _ (by omega), rd_setNe _ _ _ _ (by omega)]
          exact h.up j1 j2 h1 (by omega) m1 m2
    · rw [if_neg hb]
      refine ih (i + 1) _ _ (by omega) ⟨h.tlen, by have := h.olen; omega, fun j hj hm => ?_, fun k hk => ?_, fun j1 j2 h1 h2 m1 m2 => ?_⟩
      · have e : j ≠ i := fun e => hb (e ▸ hm)
        exact h.at_ j (by omega) hm
      · obtain ⟨j, a, b⟩ := h.onto k hk
        exact ⟨j, by omega, b⟩
      · have e : j2 ≠ i := fun e => hb (e ▸ m2)
        exact h.up j1 j2 h1 (by omega) m1 m2

theorem term_told (L : List S32) (hL : Good L) (p : Nat) (hp : p < L.length) : ∃ ta, Told L (marks L p) (p + 1) ta (termN L (p : Int)) := by
  have hu := marks_len L p
  obtain ⟨ta, h⟩ := tell_told L hL (marks L p) (by omega) (p + 1) 0 (List.replicate (p + 1) 0) [] (by omega) ⟨by rw [hu]; simp, by simp, fun j hj => absurd hj (by omega), fun k hk => absurd hk (by simp), fun j1 j2 h1 h2 => absurd h2 (by omega)⟩
  refine ⟨ta, ?_⟩
  unfold termN
  rw [if_neg (by omega), Int.toNat_natCast]
  rwa [hu] at h

/-- What is told of an arena's node: all that the law asks. -/
theorem okN_movedK (n : S32) (tt : List Int) (hn : okN n = true) (ht : ∀ c, isKid n c → wf64 (rd tt c) = true) : okN (movedN n tt) = true := by
  have a : wf64 (if 0 < kidsN n.f0 then rd tt n.f3.f0 else n.f3.f0) = true := by
    split
    · exact ht _ (.inl ⟨by assumption, rfl⟩)
    · unfold okN at hn; simp only [Bool.and_eq_true] at hn; exact hn.1.1.2
  have b : wf64 (if 1 < kidsN n.f0 then rd tt n.f3.f1 else n.f3.f1) = true := by
    split
    · exact ht _ (.inr (.inl ⟨by assumption, rfl⟩))
    · unfold okN at hn; simp only [Bool.and_eq_true] at hn; exact hn.1.2
  have c : wf64 (if 2 < kidsN n.f0 then rd tt n.f3.f2 else n.f3.f2) = true := by
    split
    · exact ht _ (.inr (.inr ⟨by assumption, rfl⟩))
    · unfold okN at hn; simp only [Bool.and_eq_true] at hn; exact hn.2
  unfold okN at hn ⊢
  unfold movedN
  simp only [Bool.and_eq_true] at hn ⊢
  exact ⟨⟨⟨hn.1.1.1, a⟩, b⟩, c⟩

section
variable {L : List S32} {p : Nat} {ta : List Int} {t : List S32}
theorem Told.inj (h : Told L (marks L p) (p + 1) ta t) {j1 j2 : Nat} (h1 : j1 < p + 1) (h2 : j2 < p + 1) (m1 : rdOf false (marks L p) (j1 : Int) = true) (m2 : rdOf false (marks L p) (j2 : Int) = true) (e : rd ta (j1 : Int) = rd ta (j2 : Int)) : j1 = j2 := by
  by_cases a : j1 < j2
  · have := h.up j1 j2 a h2 m1 m2; omega
  · by_cases b : j2 < j1
    · have := h.up j2 j1 b h1 m2 m1; omega
    · omega
theorem Told.kid (hL : Good L) (hp : p < L.length) (h : Told L (marks L p) (p + 1) ta t) {j : Nat} (hj : j < p + 1) (hm : rdOf false (marks L p) (j : Int) = true) {c : Int} (hc : isKid (rd_T32 L (j : Int)) c) :
    ∃ x : Nat, c = x ∧ x < j ∧ rdOf false (marks L p) (x : Int) = true ∧ rd ta (x : Int) < rd ta (j : Int) := by
  have hcc := (hL.kids j (by omega)).kid hc
  obtain ⟨x, rfl⟩ : ∃ x : Nat, c = x := ⟨c.toNat, by omega⟩
  have hx := marks_closed L hL p hp j (by rw [marks_len]; exact hj) hm _ hc
  exact ⟨x, rfl, by omega, hx, h.up x j (by omega) hj hx hm⟩
theorem Told.right (hL : Good L) (hp : p < L.length) (h : Told L (marks L p) (p + 1) ta t) (k : Nat) (hk : k < t.length) : rightN (rd_T32 t (k : Int)) (t.take k) = 0 := by
  obtain ⟨j, hj, hm, he⟩ := h.onto k hk
  obtain ⟨a, b, c⟩ := h.at_ j hj hm
  rw [← he, c]
  refine right_moved _ (L.take j) _ _ (hL.right j (by omega)) (fun c hc => ?_)
  obtain ⟨x, rfl, hx, mx, ux⟩ := h.kid hL hp hj hm hc
  obtain ⟨a', b', c'⟩ := h.at_ x (by omega) mx
  refine ⟨a', by rw [List.length_take]; omega, ?_⟩
  rw [rd_take32 t k _ a' (by omega), c', rd_take32 L j _ (by omega) (by omega)]
  rfl
theorem Told.dist (hL : Good L) (hp : p < L.length) (h : Told L (marks L p) (p + 1) ta t) {k k' : Nat} (hk : k < t.length) (hk' : k' < t.length) (e : rd_T32 t (k : Int) = rd_T32 t (k' : Int)) : k = k' := by
  obtain ⟨j, hj, hm, he⟩ := h.onto k hk
  obtain ⟨j', hj', hm', he'⟩ := h.onto k' hk'
  have c := (h.at_ j hj hm).2.2
  have c' := (h.at_ j' hj' hm').2.2
  rw [← he, ← he', c, c'] at e
  have := moved_inj e (fun x y hx hy exy => by
    obtain ⟨x, rfl, h1, h2, _⟩ := h.kid hL hp hj hm hx
    obtain ⟨y, rfl, h3, h4, _⟩ := h.kid hL hp hj' hm' hy
    rw [h.inj (by omega) (by omega) h2 h4 exy])
  rw [rd_get L j (by omega), rd_get L j' (by omega)] at this
  have : j = j' := nodup_inj hL.dist this
  subst this
  omega
theorem Told.good (hL : Good L) (hp : p < L.length) (h : Told L (marks L p) (p + 1) ta t) : Good t := by
  have hs := hL.size
  have ho := h.olen
  refine ⟨by omega, h.right hL hp, fun a ha => ?_, ?_⟩
  · obtain ⟨k, hk, rfl⟩ := List.getElem_of_mem ha
    rw [← rd_get t k hk]
    obtain ⟨j, hj, hm, he⟩ := h.onto k hk
    rw [← he, (h.at_ j hj hm).2.2]
    refine okN_movedK _ _ (hL.fit _ (rd_mem L j (by omega) (by omega))) (fun c hc => ?_)
    obtain ⟨x, rfl, hx, mx, ux⟩ := h.kid hL hp hj hm hc
    obtain ⟨a', b', _⟩ := h.at_ x (by omega) mx
    exact wf64_place ⟨a', by omega⟩
  · refine List.pairwise_iff_getElem.2 (fun i j hi hj hij e => ?_)
    have e' : rd_T32 t (i : Int) = rd_T32 t (j : Int) := by rw [rd_get t i hi, rd_get t j hj]; exact e
    have := h.dist hL hp hi hj e'
    omega
/-- The root stands last. -/
theorem Told.root (hL : Good L) (hp : p < L.length) (h : Told L (marks L p) (p + 1) ta t) : rd ta (p : Int) = (t.length : Int) - 1 := by
  have hm := marks_root L p
  obtain ⟨a, b, _⟩ := h.at_ p (by omega) hm
  by_cases e : rd ta (p : Int) < (t.length : Int) - 1
  · obtain ⟨j, hj, mj, ej⟩ := h.onto (t.length - 1) (by omega)
    by_cases q : j = p
    · subst q; omega
    · have := h.up j p (by omega) (by omega) mj hm; omega
  · omega
/-- Each node but the root is a kid of a later one. -/
theorem Told.used (hL : Good L) (hp : p < L.length) (h : Told L (marks L p) (p + 1) ta t) (k : Nat) (hk : k + 1 < t.length) : ∃ k' : Nat, k < k' ∧ k' < t.length ∧ isKid (rd_T32 t (k' : Int)) (k : Int) := by
  obtain ⟨j, hj, hm, he⟩ := h.onto k (by omega)
  have hr := h.root hL hp
  rcases marks_par L hL p hp j hm with e | ⟨j', a, a', b, c⟩
  · subst e; omega
  · rw [marks_len] at a'
    obtain ⟨x, y, z⟩ := h.at_ j' a' b
    have u := h.up j j' a a' hm b
    refine ⟨(rd ta (j' : Int)).toNat, by omega, by omega, ?_⟩
    rw [Int.toNat_of_nonneg x, z, ← he]
    exact moved_kid c
end

theorem check_of (l : List S32) (h1 : 1 ≤ l.length) (hs : l.length ≤ 65536) (hr : ∀ j : Nat, j < l.length → rightN (rd_T32 l (j : Int)) (l.take j) = 0) : checkN l = (0, 0) := by
  have go : ∀ d i, i + d = l.length → chk l d i = (0, 0) := by
    intro d
    induction d with
    | zero => intro i _; rfl
    | succ d ih => intro i hi; simp only [chk]; rw [if_neg (by omega), if_pos (hr i (by omega))]; exact ih (i + 1) (by omega)
  unfold checkN
  rw [if_neg (by omega)]
  exact go _ 0 (by omega)
theorem Good.check {l : List S32} (h : Good l) (h1 : 1 ≤ l.length) : checkN l = (0, 0) := check_of l h1 h.size h.right

section
variable {L : List S32} {p : Nat} {ta : List Int} {t : List S32}
theorem idx_at (hL : Good L) (j : Nat) (hj : j < L.length) : L.idxOf (rd_T32 L (j : Int)) = j := by
  rw [rd_get L j hj]
  have hm : L[j] ∈ L := List.getElem_mem hj
  have hl := List.idxOf_lt_length_of_mem hm
  exact nodup_inj hL.dist (List.getElem_idxOf hl)
theorem put_back (hL : Good L) (hp : p < L.length) (h : Told L (marks L p) (p + 1) ta t) (d : Nat) : ∀ (tu : List Int) (i : Nat), i + d = t.length → tu.length = i →
    (∀ j : Nat, j < p + 1 → rdOf false (marks L p) (j : Int) = true → rd ta (j : Int) < i → rd tu (rd ta (j : Int)) = j) → putN t d L tu i = (L, (p : Int), 0) := by
  induction d with
  | zero =>
    intro tu i hi hl hto
    have hr := h.root hL hp
    have := hto p (by omega) (marks_root L p) (by omega)
    rw [hr] at this
    simp only [putN]
    rw [this]
  | succ d ih =>
    intro tu i hi hl hto
    obtain ⟨j, hj, hm, he⟩ := h.onto i (by omega)
    obtain ⟨a, b, c⟩ := h.at_ j hj hm
    have hmov : movedN (rd_T32 t (i : Int)) tu = rd_T32 L (j : Int) := by
      rw [← he, c]
      refine moved_back _ _ _ (fun c hc => ?_)
      obtain ⟨x, rfl, hx, mx, ux⟩ := h.kid hL hp hj hm hc
      exact hto x (by omega) mx (by omega)
    have hmem : rd_T32 L (j : Int) ∈ L := rd_mem L j (by omega) (by omega)
    have hmk : makeN L (rd_T32 L (j : Int)) = (L, (j : Int), 0) := by
      unfold makeN
      rw [if_pos hmem, idx_at hL j (by omega)]
    simp only [putN]
    rw [hmov, hmk]
    simp only [if_true]
    refine ih _ (i + 1) (by omega) (by simp [hl]) (fun x hx mx lx => ?_)
    obtain ⟨a', b', _⟩ := h.at_ x hx mx
    obtain ⟨y, hy⟩ : ∃ y : Nat, rd ta (x : Int) = y := ⟨(rd ta (x : Int)).toNat, by omega⟩
    by_cases e : y = i
    · subst e
      have := h.inj hx hj mx hm (by omega)
      subst this
      rw [hy, ← hl]
      exact rd_end _ _
    · have := hto x hx mx (by omega)
      rw [hy] at this ⊢
      rw [rd_snoc _ _ _ (by omega)]
      exact this
theorem Told.again (hL : Good L) (hp : p < L.length) (h : Told L (marks L p) (p + 1) ta t) : putA L t = (L, (p : Int), 0) := by
  have hr := h.root hL hp
  have hb := (h.at_ p (by omega) (marks_root L p)).1
  unfold putA
  rw [(h.good hL hp).check (by omega)]
  simp only [if_true]
  exact put_back hL hp h t.length [] 0 (by omega) rfl (fun j hj mj lj => by have := (h.at_ j hj mj).1; omega)
end

theorem take_snoc32 (t : List S32) (i : Nat) (h : i < t.length) : t.take (i + 1) = t.take i ++ [rd_T32 t (i : Int)] := by
  rw [List.take_succ_eq_append_getElem h, rd_get t i h]
/-- A term without twins is put into an arena without nodes just as it is. -/
theorem put_self (t : List S32) (ht : Good t) (h1 : 1 ≤ t.length) (d : Nat) : ∀ (tu : List Int) (i : Nat), i + d = t.length → tu.length = i → (∀ j : Nat, j < i → rd tu (j : Int) = j) →
    putN t d (t.take i) tu i = (t, (t.length : Int) - 1, 0) := by
  have hs := ht.size
  induction d with
  | zero =>
    intro tu i hi hl hto
    obtain rfl : i = t.length := by omega
    have := hto (t.length - 1) (by omega)
    rw [show ((t.length - 1 : Nat) : Int) = (t.length : Int) - 1 by omega] at this
    simp only [putN]
    rw [List.take_length, this]
  | succ d ih =>
    intro tu i hi hl hto
    have hmov : movedN (rd_T32 t (i : Int)) tu = rd_T32 t (i : Int) := moved_id _ _ (fun c hc => by
      have hcc := (ht.kids i (by omega)).kid hc
      obtain ⟨x, rfl⟩ : ∃ x : Nat, c = x := ⟨c.toNat, by omega⟩
      exact hto x (by omega))
    have hno : rd_T32 t (i : Int) ∉ t.take i := fun hm => by
      rw [rd_get t i (by omega), List.mem_take_iff_getElem] at hm
      obtain ⟨x, hx, e⟩ := hm
      have := nodup_inj ht.dist e
      omega
    have hmk : makeN (t.take i) (rd_T32 t (i : Int)) = (t.take (i + 1), (i : Int), 0) := by
      unfold makeN
      rw [if_neg hno, if_pos (ht.right i (by omega)), if_neg (by rw [List.length_take]; omega), take_snoc32 t i (by omega), List.length_take, Nat.min_eq_left (by omega)]
    simp only [putN]
    rw [hmov, hmk]
    simp only [if_true]
    refine ih _ (i + 1) (by omega) (by simp [hl]) (fun j hj => ?_)
    by_cases e : j = i
    · subst e; rw [← hl]; exact rd_end _ _
    · rw [rd_snoc _ _ _ (by omega)]; exact hto j (by omega)
theorem putA_self (t : List S32) (ht : Good t) (h1 : 1 ≤ t.length) : putA [] t = (t, (t.length : Int) - 1, 0) := by
  unfold putA
  rw [ht.check h1]
  simp only [if_true]
  exact put_self t ht h1 t.length [] 0 (by omega) rfl (fun j hj => absurd hj (by omega))

theorem tell_self (t : List S32) (ht : Good t) (u : List Bool) (hu : u.length = t.length) (ha : ∀ j : Nat, j < t.length → rdOf false u (j : Int) = true) (d : Nat) : ∀ (i : Nat) (tt : List Int), i + d = t.length → tt.length = t.length → (∀ j : Nat, j < i → rd tt (j : Int) = j) →
    tell t u d i tt (t.take i) = t := by
  induction d with
  | zero =>
    intro i tt hi hl hto
    obtain rfl : i = t.length := by omega
    simp only [tell]
    exact List.take_length
  | succ d ih =>
    intro i tt hi hl hto
    simp only [tell]
    rw [if_pos (ha i (by omega)), List.length_take, Nat.min_eq_left (by omega)]
    have hto' : ∀ j : Nat, j < i + 1 → rd (tt.set i (i : Int)) (j : Int) = j := fun j hj => by
      by_cases e : j = i
      · subst e; exact rd_setAt _ _ _ (by omega)
      · rw [rd_setNe _ _ _ _ (by omega)]; exact hto j (by omega)
    have hmov : movedN (rd_T32 t (i : Int)) (tt.set i (i : Int)) = rd_T32 t (i : Int) := moved_id _ _ (fun c hc => by
      have hcc := (ht.kids i (by omega)).kid hc
      obtain ⟨x, rfl⟩ : ∃ x : Nat, c = x := ⟨c.toNat, by omega⟩
      exact hto' x (by omega))
    rw [hmov, ← take_snoc32 t i (by omega)]
    exact ih (i + 1) _ (by omega) (by rw [List.length_set]; exact hl) hto'
/-- A term without twins, each of whose nodes but the root is used behind it, is told as it is. -/
theorem term_self (t : List S32) (ht : Good t) (h1 : 1 ≤ t.length) (hused : ∀ k : Nat, k + 1 < t.length → ∃ k' : Nat, k < k' ∧ k' < t.length ∧ isKid (rd_T32 t (k' : Int)) (k : Int)) : termN t ((t.length : Int) - 1) = t := by
  obtain ⟨n, hn⟩ : ∃ n, t.length = n + 1 := ⟨t.length - 1, by omega⟩
  have hu := marks_len t n
  have all : ∀ e j : Nat, j + e = n → rdOf false (marks t n) (j : Int) = true := by
    intro e
    induction e using Nat.strongRecOn with
    | ind e ih =>
      intro j hj
      by_cases z : e = 0
      · obtain rfl : j = n := by omega
        exact marks_root t j
      · obtain ⟨k', a, b, c⟩ := hused j (by omega)
        have := ih (n - k') (by omega) k' (by omega)
        exact marks_closed t ht n (by omega) k' (by omega) this _ c
  rw [show ((t.length : Int) - 1) = (n : Int) by omega]
  unfold termN
  rw [if_neg (by omega), Int.toNat_natCast]
  have := tell_self t ht (marks t n) (by omega) (fun j hj => all (n - j) j (by omega)) (n + 1) 0 (List.replicate (n + 1) 0) (by omega) (by simp; omega) (fun j hj => absurd hj (by omega))
  simpa using this

end Go.Proofs.Ytkindfbbklkjdaa.Pure
