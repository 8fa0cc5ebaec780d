/- Layer 6 (term), the plain law of putting back: what was put and told is a term without twins, each node but the root used behind it; put again it stands where it stood. -/
import Derived.Test.YtkindfbbklkjdaaPureSb
namespace Go.Proofs.Ytkindfbbklkjdaa.Pure
open Go.RowKit Go.Proofs.Ytkindfbbklkjdaa.P Go.Proofs.YtkindfbbklkjdaaW.PrintWords Go.Proofs.YtkindfbbklkjdaaW.PrintLast Go.Proofs.YtkindfbbklkjdaaW.PrintMore
set_option linter.unusedVariables false
set_option linter.unusedSimpArgs false

/-- Is c a kid's place of n? -/
def isKid (n : S32) (c : Int) : Prop := (0 < kidsN n.f0 ∧ n.f3.f0 = c) ∨ (1 < kidsN n.f0 ∧ n.f3.f1 = c) ∨ (2 < kidsN n.f0 ∧ n.f3.f2 = c)
theorem kidsIn_of {n : S32} {m : Nat} (h : ∀ c, isKid n c → 0 ≤ c ∧ c < m) : kidsIn n m :=
  ⟨fun a => h _ (.inl ⟨a, rfl⟩), fun a => h _ (.inr (.inl ⟨a, rfl⟩)), fun a => h _ (.inr (.inr ⟨a, rfl⟩))⟩
theorem kidsIn.kid {n : S32} {m : Nat} (h : kidsIn n m) {c : Int} (hc : isKid n c) : 0 ≤ c ∧ c < m := by
  rcases hc with ⟨a, rfl⟩ | ⟨a, rfl⟩ | ⟨a, rfl⟩
  · exact h.1 a
  · exact h.2.1 a
  · exact h.2.2 a
theorem moved_congr (n : S32) (t1 t2 : List Int) (h : ∀ c, isKid n c → rd t1 c = rd t2 c) : movedN n t1 = movedN n t2 := by
  have a : (if 0 < kidsN n.f0 then rd t1 n.f3.f0 else n.f3.f0) = (if 0 < kidsN n.f0 then rd t2 n.f3.f0 else n.f3.f0) := by
    split
    · exact h _ (.inl ⟨by assumption, rfl⟩)
    · rfl
  have b : (if 1 < kidsN n.f0 then rd t1 n.f3.f1 else n.f3.f1) = (if 1 < kidsN n.f0 then rd t2 n.f3.f1 else n.f3.f1) := by
    split
    · exact h _ (.inr (.inl ⟨by assumption, rfl⟩))
    · rfl
  have c : (if 2 < kidsN n.f0 then rd t1 n.f3.f2 else n.f3.f2) = (if 2 < kidsN n.f0 then rd t2 n.f3.f2 else n.f3.f2) := by
    split
    · exact h _ (.inr (.inr ⟨by assumption, rfl⟩))
    · rfl
  unfold movedN
  rw [a, b, c]
theorem kid_moved {n : S32} {tt : List Int} {c : Int} (h : isKid (movedN n tt) c) : ∃ d, isKid n d ∧ rd tt d = c := by
  unfold isKid movedN at h
  simp only at h
  rcases h with ⟨a, e⟩ | ⟨a, e⟩ | ⟨a, e⟩
  · rw [if_pos a] at e; exact ⟨_, .inl ⟨a, rfl⟩, e⟩
  · rw [if_pos a] at e; exact ⟨_, .inr (.inl ⟨a, rfl⟩), e⟩
  · rw [if_pos a] at e; exact ⟨_, .inr (.inr ⟨a, rfl⟩), e⟩
theorem moved_kid {n : S32} {tt : List Int} {d : Int} (h : isKid n d) : isKid (movedN n tt) (rd tt d) := by
  unfold isKid movedN
  simp only
  rcases h with ⟨a, rfl⟩ | ⟨a, rfl⟩ | ⟨a, rfl⟩
  · exact .inl ⟨a, if_pos a⟩
  · exact .inr (.inl ⟨a, if_pos a⟩)
  · exact .inr (.inr ⟨a, if_pos a⟩)
theorem moved_back (n : S32) (t1 t2 : List Int) (h : ∀ c, isKid n c → rd t2 (rd t1 c) = c) : movedN (movedN n t1) t2 = n := by
  obtain ⟨n0, n1, n2, n3, n4, n5⟩ := n
  have a : (if 0 < kidsN n0 then rd t2 (if 0 < kidsN n0 then rd t1 n3 else n3) else (if 0 < kidsN n0 then rd t1 n3 else n3)) = n3 := by
    by_cases e : 0 < kidsN n0
    · simp only [if_pos e]; exact h _ (.inl ⟨e, rfl⟩)
    · simp only [if_neg e]
  have b : (if 1 < kidsN n0 then rd t2 (if 1 < kidsN n0 then rd t1 n4 else n4) else (if 1 < kidsN n0 then rd t1 n4 else n4)) = n4 := by
    by_cases e : 1 < kidsN n0
    · simp only [if_pos e]; exact h _ (.inr (.inl ⟨e, rfl⟩))
    · simp only [if_neg e]
  have c : (if 2 < kidsN n0 then rd t2 (if 2 < kidsN n0 then rd t1 n5 else n5) else (if 2 < kidsN n0 then rd t1 n5 else n5)) = n5 := by
    by_cases e : 2 < kidsN n0
    · simp only [if_pos e]; exact h _ (.inr (.inr ⟨e, rfl⟩))
    · simp only [if_neg e]
  unfold movedN
  simp only
  rw [a, b, c]
theorem moved_id (n : S32) (tt : List Int) (h : ∀ c, isKid n c → rd tt c = c) : movedN n tt = n := by
  obtain ⟨n0, n1, n2, n3, n4, n5⟩ := n
  have a : (if 0 < kidsN n0 then rd tt n3 else n3) = n3 := by
    split
    · exact h _ (.inl ⟨by assumption, rfl⟩)
    · rfl
  have b : (if 1 < kidsN n0 then rd tt n4 else n4) = n4 := by
    split
    · exact h _ (.inr (.inl ⟨by assumption, rfl⟩))
    · rfl
  have c : (if 2 < kidsN n0 then rd tt n5 else n5) = n5 := by
    split
    · exact h _ (.inr (.inr ⟨by assumption, rfl⟩))
    · rfl
  unfold movedN
  simp only
  rw [a, b, c]
/-- Like nodes are told anew alike only if they are alike, where places are told anew one to one. -/
theorem moved_inj {n m : S32} {tt : List Int} (e : movedN n tt = movedN m tt) (h : ∀ c d, isKid n c → isKid m d → rd tt c = rd tt d → c = d) : n = m := by
  obtain ⟨n0, n1, n2, n3, n4, n5⟩ := n
  obtain ⟨m0, m1, m2, m3, m4, m5⟩ := m
  unfold movedN at e
  simp only [S32.mk.injEq, S30.mk.injEq] at e
  obtain ⟨rfl, rfl, rfl, a, b, c⟩ := e
  have a' : n3 = m3 := by
    by_cases e : 0 < kidsN n0
    · rw [if_pos e, if_pos e] at a; exact h _ _ (.inl ⟨e, rfl⟩) (.inl ⟨e, rfl⟩) a
    · rw [if_neg e, if_neg e] at a; exact a
  have b' : n4 = m4 := by
    by_cases e : 1 < kidsN n0
    · rw [if_pos e, if_pos e] at b; exact h _ _ (.inr (.inl ⟨e, rfl⟩)) (.inr (.inl ⟨e, rfl⟩)) b
    · rw [if_neg e, if_neg e] at b; exact b
  have c' : n5 = m5 := by
    by_cases e : 2 < kidsN n0
    · rw [if_pos e, if_pos e] at c; exact h _ _ (.inr (.inr ⟨e, rfl⟩)) (.inr (.inr ⟨e, rfl⟩)) c
    · rw [if_neg e, if_neg e] at c; exact c
  rw [a', b', c']

/-- A node that is right behind a list is right behind another one, its kids' places told anew, where these have the same widths. -/
theorem right_moved (n : S32) (l l' : List S32) (tt : List Int) (h : rightN n l = 0) (hk : ∀ c, isKid n c → 0 ≤ rd tt c ∧ rd tt c < l'.length ∧ (rd_T32 l' (rd tt c)).f1 = (rd_T32 l c).f1) : rightN (movedN n tt) l' = 0 := by
  have hr := kidsN_range n.f0
  have hk0 : 0 < kidsN n.f0 → _ := fun e => hk _ (.inl ⟨e, rfl⟩)
  have hk1 : 1 < kidsN n.f0 → _ := fun e => hk _ (.inr (.inl ⟨e, rfl⟩))
  have hk2 : 2 < kidsN n.f0 → _ := fun e => hk _ (.inr (.inr ⟨e, rfl⟩))
  unfold rightN at h ⊢
  by_cases ho : n.f0 < 0 ∨ n.f0 > 24
  · rw [if_pos ho] at h; omega
  rw [if_neg ho] at h
  rw [if_neg (show ¬ ((movedN n tt).f0 < 0 ∨ (movedN n tt).f0 > 24) from ho)]
  by_cases hko : kidsOk n l
  case neg => rw [if_pos hko] at h; omega
  rw [if_neg (fun z => z hko)] at h
  obtain ⟨x, y, z⟩ := hko
  unfold kidOk at x y z
  have hko' : kidsOk (movedN n tt) l' := by
    refine ⟨?_, ?_, ?_⟩
    · unfold kidOk
      show if 0 ≥ kidsN n.f0 then (if 0 < kidsN n.f0 then rd tt n.f3.f0 else n.f3.f0) = 0 else 0 ≤ (if 0 < kidsN n.f0 then rd tt n.f3.f0 else n.f3.f0) ∧ (if 0 < kidsN n.f0 then rd tt n.f3.f0 else n.f3.f0) < l'.length
      by_cases e : 0 < kidsN n.f0
      · rw [if_neg (by omega), if_pos e]; exact ⟨(hk0 e).1, (hk0 e).2.1⟩
      · rw [if_pos (by omega)] at x ⊢; rw [if_neg e]; exact x
    · unfold kidOk
      show if 1 ≥ kidsN n.f0 then (if 1 < kidsN n.f0 then rd tt n.f3.f1 else n.f3.f1) = 0 else 0 ≤ (if 1 < kidsN n.f0 then rd tt n.f3.f1 else n.f3.f1) ∧ (if 1 < kidsN n.f0 then rd tt n.f3.f1 else n.f3.f1) < l'.length
      by_cases e : 1 < kidsN n.f0
      · rw [if_neg (by omega), if_pos e]; exact ⟨(hk1 e).1, (hk1 e).2.1⟩
      · rw [if_pos (by omega)] at y ⊢; rw [if_neg e]; exact y
    · unfold kidOk
      show if 2 ≥ kidsN n.f0 then (if 2 < kidsN n.f0 then rd tt n.f3.f2 else n.f3.f2) = 0 else 0 ≤ (if 2 < kidsN n.f0 then rd tt n.f3.f2 else n.f3.f2) ∧ (if 2 < kidsN n.f0 then rd tt n.f3.f2 else n.f3.f2) < l'.length
      by_cases e : 2 < kidsN n.f0
      · rw [if_neg (by omega), if_pos e]; exact ⟨(hk2 e).1, (hk2 e).2.1⟩
      · rw [if_pos (by omega)] at z ⊢; rw [if_neg e]; exact z
  rw [if_neg (fun z => z hko')]
  have e0 : w0 (movedN n tt) l' = w0 n l := by
    show (if 0 ≥ kidsN n.f0 then 0 else (rd_T32 l' (if 0 < kidsN n.f0 then rd tt n.f3.f0 else n.f3.f0)).f1) = if 0 ≥ kidsN n.f0 then 0 else (rd_T32 l n.f3.f0).f1
    by_cases e : 0 < kidsN n.f0
    · rw [if_neg (show ¬ 0 ≥ kidsN n.f0 by omega), if_neg (show ¬ 0 ≥ kidsN n.f0 by omega), if_pos e]; exact (hk0 e).2.2
    · rw [if_pos (by omega), if_pos (by omega)]
  have e1 : w1 (movedN n tt) l' = w1 n l := by
    show (if 1 ≥ kidsN n.f0 then 0 else (rd_T32 l' (if 1 < kidsN n.f0 then rd tt n.f3.f1 else n.f3.f1)).f1) = if 1 ≥ kidsN n.f0 then 0 else (rd_T32 l n.f3.f1).f1
    by_cases e : 1 < kidsN n.f0
    · rw [if_neg (show ¬ 1 ≥ kidsN n.f0 by omega), if_neg (show ¬ 1 ≥ kidsN n.f0 by omega), if_pos e]; exact (hk1 e).2.2
    · rw [if_pos (by omega), if_pos (by omega)]
  have e2 : w2 (movedN n tt) l' = w2 n l := by
    show (if 2 ≥ kidsN n.f0 then 0 else (rd_T32 l' (if 2 < kidsN n.f0 then rd tt n.f3.f2 else n.f3.f2)).f1) = if 2 ≥ kidsN n.f0 then 0 else (rd_T32 l n.f3.f2).f1
    by_cases e : 2 < kidsN n.f0
    · rw [if_neg (show ¬ 2 ≥ kidsN n.f0 by omega), if_neg (show ¬ 2 ≥ kidsN n.f0 by omega), if_pos e]; exact (hk2 e).2.2
    · rw [if_pos (by omega), if_pos (by omega)]
  rw [e0, e1, e2]
  exact h

theorem rd_snoc (tt : List Int) (x : Int) (j : Nat) (h : j < tt.length) : rd (tt ++ [x]) (j : Int) = rd tt (j : Int) := by
  unfold rd
  rw [Int.toNat_natCast, List.getD_eq_getElem?_getD, List.getD_eq_getElem?_getD, List.getElem?_append_left h]
theorem rd_end (tt : List Int) (x : Int) : rd (tt ++ [x]) (tt.length : Int) = x := by
  unfold rd
  rw [Int.toNat_natCast, List.getD_eq_getElem?_getD, List.getElem?_append_right (Nat.le_refl _)]
  simp
theorem rd_take32 (l : List S32) (i : Nat) (c : Int) (h0 : 0 ≤ c) (h1 : c < i) : rd_T32 (l.take i) c = rd_T32 l c := by
  unfold rd_T32
  rw [List.getD_eq_getElem?_getD, List.getD_eq_getElem?_getD, List.getElem?_take_of_lt (by omega)]

theorem make_at (L : List S32) (n : S32) (h : rightN n L = 0) (hs : L.length < 65536) : (makeN L n).2.2 = 0 ∧ 0 ≤ (makeN L n).2.1 ∧ (makeN L n).2.1 < (makeN L n).1.length ∧ rd_T32 (makeN L n).1 (makeN L n).2.1 = n ∧ (makeN L n).1.length ≤ L.length + 1 := by
  unfold makeN
  by_cases hm : n ∈ L
  · rw [if_pos hm]
    have hl := List.idxOf_lt_length_of_mem hm
    refine ⟨rfl, by simp only; omega, by simp only; omega, ?_, by simp only; omega⟩
    simp only
    rw [rd_get L _ hl]
    exact List.getElem_idxOf hl
  · rw [if_neg hm, if_pos h, if_neg (by omega)]
    refine ⟨rfl, by simp only; omega, by simp only [List.length_append, List.length_singleton]; omega, ?_, by simp⟩
    exact rd_last L n

/-- What is put node by node: each node stands where it is told. -/
structure PutsTo (l L : List S32) (tt : List Int) (i : Nat) : Prop where
  len : tt.length = i
  at_ : ∀ j : Nat, j < i → 0 ≤ rd tt (j : Int) ∧ rd tt (j : Int) < L.length ∧ rd_T32 L (rd tt (j : Int)) = movedN (rd_T32 l (j : Int)) tt

theorem putN_to (l : List S32) (hr : ∀ j : Nat, j < l.length → rightN (rd_T32 l j) (l.take j) = 0) (m : Nat) (hm : m + l.length ≤ 65536) (h1 : 1 ≤ l.length) (d : Nat) :
    ∀ (L : List S32) (tt : List Int) (i : Nat), i + d = l.length → L.length ≤ m + i → PutsTo l L tt i →
      (putN l d L tt i).2.2 = 0 ∧ (putN l d L tt i).1.length ≤ m + l.length ∧ ∃ ta, PutsTo l (putN l d L tt i).1 ta l.length ∧ (putN l d L tt i).2.1 = rd ta ((l.length : Int) - 1) := by
  induction d with
  | zero =>
    intro L tt i hi hL hp
    obtain rfl : i = l.length := by omega
    exact ⟨rfl, hL, tt, hp, rfl⟩
  | succ d ih =>
    intro L tt i hi hL hp
    have hri := hr i (by omega)
    have hki := right_kids _ _ hri
    rw [List.length_take, Nat.min_eq_left (by omega)] at hki
    have hrm : rightN (movedN (rd_T32 l i) tt) L = 0 := by
      refine right_moved _ _ _ _ hri (fun c hc => ?_)
      obtain ⟨c0, c1⟩ := hki.kid hc
      obtain ⟨x, rfl⟩ : ∃ x : Nat, c = x := ⟨c.toNat, by omega⟩
      obtain ⟨a, b, e⟩ := hp.at_ x (by omega)
      refine ⟨a, b, ?_⟩
      rw [e, rd_take32 l i _ (by omega) (by omega)]
      rfl
    obtain ⟨z, a0, a1, a2, a3⟩ := make_at L _ hrm (by omega)
    obtain ⟨ext, he⟩ := makeN_ext L (movedN (rd_T32 l i) tt)
    simp only [putN]
    rw [if_pos z]
    refine ih _ _ (i + 1) (by omega) (by omega) ⟨by simp [hp.len], fun j hj => ?_⟩
    have hkj : kidsIn (rd_T32 l j) j := by
      have := right_kids _ _ (hr j (by omega))
      rwa [List.length_take, Nat.min_eq_left (by omega)] at this
    have hcong : movedN (rd_T32 l (j : Int)) (tt ++ [(makeN L (movedN (rd_T32 l i) tt)).2.1]) = movedN (rd_T32 l (j : Int)) tt := by
      refine moved_congr _ _ _ (fun c hc => ?_)
      obtain ⟨c0, c1⟩ := hkj.kid hc
      obtain ⟨x, rfl⟩ : ∃ x : Nat, c = x := ⟨c.toNat, by omega⟩
      exact rd_snoc _ _ _ (by rw [hp.len]; omega)
    rw [hcong]
    by_cases e : j = i
    · subst e
      have e2 : rd (tt ++ [(makeN L (movedN (rd_T32 l j) tt)).2.1]) (j : Int) = (makeN L (movedN (rd_T32 l j) tt)).2.1 := by
        have := rd_end tt (makeN L (movedN (rd_T32 l j) tt)).2.1
        rwa [hp.len] at this
      rw [e2]
      exact ⟨a0, a1, a2⟩
    · obtain ⟨b0, b1, b2⟩ := hp.at_ j (by omega)
      rw [rd_snoc _ _ _ (by rw [hp.len]; omega)]
      refine ⟨b0, ?_, ?_⟩
      · rw [he, List.length_append]; omega
      · obtain ⟨x, hx⟩ : ∃ x : Nat, rd tt (j : Int) = x := ⟨(rd tt (j : Int)).toNat, by omega⟩
        rw [hx] at b1 b2 ⊢
        rw [he, rd_ext L ext x (by omega)]
        exact b2
theorem putA_ok (L l : List S32) (hz : (checkN l).1 = 0) (hs : L.length + l.length ≤ 65536) : (putA L l).2.2 = 0 ∧ (putA L l).1.length ≤ L.length + l.length ∧ ∃ ta, PutsTo l (putA L l).1 ta l.length ∧ (putA L l).2.1 = rd ta ((l.length : Int) - 1) := by
  unfold putA
  rw [if_pos hz]
  exact putN_to l (check_ok hz).2 L.length hs (check_ok hz).1 l.length L [] 0 (by omega) (by omega) ⟨rfl, fun j hj => absurd hj (by omega)⟩
/-- Into an arena without nodes a list is put just if it is a term. -/
theorem putA_check (l : List S32) (hs : l.length ≤ 65536) : (putA [] l).2.2 = (checkN l).1 := by
  by_cases hz : (checkN l).1 = 0
  · rw [hz]; exact (putA_ok [] l hz (by simpa using hs)).1
  · unfold putA; rw [if_neg hz]

end Go.Proofs.Ytkindfbbklkjdaa.Pure
