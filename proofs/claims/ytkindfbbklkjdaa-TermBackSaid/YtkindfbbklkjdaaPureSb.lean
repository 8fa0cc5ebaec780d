/- Layer 6 (term), the plain law of staying: what is made behind changes neither a place nor a term. -/
import Derived.Test.YtkindfbbklkjdaaPureTb
namespace Go.Proofs.Ytkindfbbklkjdaa.Pure
open Go.RowKit Go.Proofs.Ytkindfbbklkjdaa.P Go.Proofs.YtkindfbbklkjdaaW.PrintWords Go.Proofs.YtkindfbbklkjdaaW.PrintLast Go.Proofs.YtkindfbbklkjdaaW.PrintMore
set_option linter.unusedVariables false
set_option linter.unusedSimpArgs false

theorem makeN_ext (L : List S32) (n : S32) : ∃ ext, (makeN L n).1 = L ++ ext := by
  unfold makeN
  repeat' split
  all_goals first | exact ⟨[n], rfl⟩ | exact ⟨[], (List.append_nil L).symm⟩
theorem putN_ext (l : List S32) (d : Nat) : ∀ (L : List S32) (tt : List Int) (i : Nat), ∃ ext, (putN l d L tt i).1 = L ++ ext := by
  induction d with
  | zero => intro L tt i; exact ⟨[], by simp [putN]⟩
  | succ d ih =>
    intro L tt i
    simp only [putN]
    obtain ⟨e1, h1⟩ := makeN_ext L (movedN (rd_T32 l i) tt)
    split
    · obtain ⟨e2, h2⟩ := ih (makeN L (movedN (rd_T32 l i) tt)).1 (tt ++ [(makeN L (movedN (rd_T32 l i) tt)).2.1]) (i + 1)
      exact ⟨e1 ++ e2, by rw [h2, h1, List.append_assoc]⟩
    · exact ⟨e1, h1⟩
theorem putA_ext (L l : List S32) : ∃ ext, (putA L l).1 = L ++ ext := by
  unfold putA
  split
  · exact putN_ext l l.length L [] 0
  · exact ⟨[], by simp⟩

theorem idxOf_ext (L ext : List S32) (n : S32) (h : n ∈ L) : (L ++ ext).idxOf n = L.idxOf n := by
  rw [List.idxOf_append, if_pos h]
/-- What was made is found again, in any longer list. -/
theorem makeN_again (L : List S32) (n : S32) (ext : List S32) (h : (makeN L n).2.2 = 0) (hL : Good L) : makeN ((makeN L n).1 ++ ext) n = ((makeN L n).1 ++ ext, (makeN L n).2.1, 0) := by
  unfold makeN at h ⊢
  by_cases hm : n ∈ L
  · simp only [if_pos hm] at h ⊢
    rw [if_pos (List.mem_append_left _ hm), idxOf_ext L ext n hm]
  · simp only [if_neg hm] at h ⊢
    by_cases hr : rightN n L = 0
    · simp only [if_pos hr] at h ⊢
      by_cases hs : 65536 ≤ (L.length : Int)
      · simp only [if_pos hs] at h; simp at h
      · simp only [if_neg hs] at h ⊢
        have hn : n ∈ L ++ [n] := by simp
        rw [if_pos (List.mem_append_left _ hn), idxOf_ext _ ext n hn, List.idxOf_append, if_neg hm]
        simp
    · simp only [if_neg hr] at h
      exact absurd h hr

theorem putN_again (l : List S32) (hl : ∀ j : Nat, j < l.length → kidsIn (rd_T32 l j) j ∧ okN (rd_T32 l j) = true) (d : Nat) : ∀ (L : List S32) (tt : List Int) (i : Nat) (ext : List S32), i + d = l.length → Good L → tt.length = i → Places tt → (putN l d L tt i).2.2 = 0 →
    putN l d ((putN l d L tt i).1 ++ ext) tt i = ((putN l d L tt i).1 ++ ext, (putN l d L tt i).2.1, 0) := by
  induction d with
  | zero => intro L tt i ext _ _ _ _ _; simp [putN]
  | succ d ih =>
    intro L tt i ext hi hL ht hp h
    have hk := hl i (by omega)
    have hok := okN_moved (rd_T32 l i) tt hk.2 (by rw [ht]; exact hk.1) hp
    simp only [putN] at h
    by_cases hz : (makeN L (movedN (rd_T32 l i) tt)).2.2 = 0
    · rw [if_pos hz] at h
      have hp' : Places (tt ++ [(makeN L (movedN (rd_T32 l i) tt)).2.1]) := fun x hx => by
        rcases List.mem_append.1 hx with hx | hx
        · exact hp x hx
        · rw [List.mem_singleton.1 hx]; exact makeN_place L _ hL
      have hi' := ih (makeN L (movedN (rd_T32 l i) tt)).1 (tt ++ [(makeN L (movedN (rd_T32 l i) tt)).2.1]) (i + 1) ext (by omega) (makeN_good L _ hL hok) (by simp [ht]) hp' h
      obtain ⟨e2, h2⟩ := putN_ext l d (makeN L (movedN (rd_T32 l i) tt)).1 (tt ++ [(makeN L (movedN (rd_T32 l i) tt)).2.1]) (i + 1)
      have e : (putN l (d + 1) L tt i) = putN l d (makeN L (movedN (rd_T32 l i) tt)).1 (tt ++ [(makeN L (movedN (rd_T32 l i) tt)).2.1]) (i + 1) := by simp only [putN]; rw [if_pos hz]
      rw [e]
      have hm := makeN_again L (movedN (rd_T32 l i) tt) (e2 ++ ext) hz hL
      rw [← List.append_assoc, ← h2] at hm
      rw [putN.eq_2, hm]
      simp only [if_true]
      exact hi'
    · rw [if_neg hz] at h
      exact absurd h hz
theorem putA_again (L l ext : List S32) (hL : Good L) (hf : ∀ a ∈ l, okN a = true) (h : (putA L l).2.2 = 0) : putA ((putA L l).1 ++ ext) l = ((putA L l).1 ++ ext, (putA L l).2.1, 0) := by
  unfold putA at h ⊢
  by_cases hz : (checkN l).1 = 0
  · simp only [if_pos hz] at h ⊢
    exact putN_again l (check_kids hz hf) l.length L [] 0 ext (by omega) hL rfl (fun x hx => by simp at hx) h
  · simp only [if_neg hz] at h
    exact absurd h hz

theorem rd_ext (L ext : List S32) (j : Nat) (h : j < L.length) : rd_T32 (L ++ ext) (j : Int) = rd_T32 L (j : Int) := by
  rw [rd_get _ j (by rw [List.length_append]; omega), rd_get _ j h, List.getElem_append_left h]
theorem sweep_ext (L ext : List S32) (i : Nat) (hi : i ≤ L.length) : ∀ u, sweep (L ++ ext) i u = sweep L i u := by
  induction i with
  | zero => intro u; rfl
  | succ i ih =>
    intro u
    simp only [sweep]
    rw [rd_ext L ext i (by omega), ih (by omega)]
theorem tell_ext (L ext : List S32) (u : List Bool) (d : Nat) : ∀ (i : Nat) (tt : List Int) (out : List S32), i + d ≤ L.length → tell (L ++ ext) u d i tt out = tell L u d i tt out := by
  induction d with
  | zero => intro i tt out _; rfl
  | succ d ih =>
    intro i tt out h
    simp only [tell]
    rw [rd_ext L ext i (by omega)]
    split
    · exact ih _ _ _ (by omega)
    · exact ih _ _ _ (by omega)
theorem termN_ext (L ext : List S32) (p : Int) (h0 : 0 ≤ p) (h1 : p < L.length) : termN (L ++ ext) p = termN L p := by
  unfold termN
  rw [if_neg (by rw [List.length_append]; omega), if_neg (by omega)]
  unfold marks
  rw [sweep_ext L ext _ (by omega), tell_ext L ext _ _ _ _ _ (by omega)]

theorem mark_keeps (n : S32) (u : List Bool) (j : Nat) (h : rdOf false u (j : Int) = true) : rdOf false (markN n u) (j : Int) = true := by
  unfold markN mark0 mark1 mark2
  have a : rdOf false (if 0 < kidsN n.f0 then u.set n.f3.f0.toNat true else u) (j : Int) = true := by
    split
    · exact rdOf_set _ _ _ h
    · exact h
  have b : ∀ v, rdOf false v (j : Int) = true → rdOf false (if 1 < kidsN n.f0 then v.set n.f3.f1.toNat true else v) (j : Int) = true := fun v hv => by
    split
    · exact rdOf_set _ _ _ hv
    · exact hv
  split
  · exact rdOf_set _ _ _ (b _ a)
  · exact b _ a
theorem sweep_keeps (L : List S32) (i j : Nat) : ∀ u, rdOf false u (j : Int) = true → rdOf false (sweep L i u) (j : Int) = true := by
  induction i with
  | zero => intro u h; exact h
  | succ i ih =>
    intro u h
    simp only [sweep]
    apply ih
    split
    · exact mark_keeps _ _ _ h
    · exact h
theorem marks_root (L : List S32) (p : Nat) : rdOf false (marks L p) (p : Int) = true := by
  unfold marks
  apply sweep_keeps
  unfold rdOf
  rw [Int.toNat_natCast, List.getD_eq_getElem?_getD, List.getElem?_set_self (by simp)]
  rfl
theorem tell_out (L : List S32) (u : List Bool) (d : Nat) : ∀ (i : Nat) (tt : List Int) (out : List S32), out.length ≤ (tell L u d i tt out).length := by
  induction d with
  | zero => intro i tt out; exact Nat.le_refl _
  | succ d ih =>
    intro i tt out
    simp only [tell]
    split
    · have := ih (i + 1) (tt.set i (out.length : Int)) (out ++ [movedN (rd_T32 L i) (tt.set i (out.length : Int))])
      rw [List.length_append] at this
      omega
    · exact ih _ _ _
theorem tell_some (L : List S32) (u : List Bool) (j : Nat) (hj : rdOf false u (j : Int) = true) (d : Nat) : ∀ (i : Nat) (tt : List Int) (out : List S32), i ≤ j → j < i + d → out.length < (tell L u d i tt out).length := by
  induction d with
  | zero => intro i tt out h1 h2; omega
  | succ d ih =>
    intro i tt out h1 h2
    simp only [tell]
    by_cases e : rdOf false u (i : Int) = true
    · rw [if_pos e]
      have := tell_out L u d (i + 1) (tt.set i (out.length : Int)) (out ++ [movedN (rd_T32 L i) (tt.set i (out.length : Int))])
      rw [List.length_append, List.length_singleton] at this
      omega
    · rw [if_neg e]
      have hne : i ≠ j := fun h => e (h ▸ hj)
      exact ih (i + 1) tt out (by omega) (by omega)
theorem termN_some (L : List S32) (p : Int) (h0 : 0 ≤ p) (h1 : p < L.length) : 0 < (termN L p).length := by
  unfold termN
  rw [if_neg (by omega)]
  have := tell_some L (marks L p.toNat) p.toNat (marks_root L p.toNat) (p.toNat + 1) 0 (List.replicate (p.toNat + 1) 0) [] (by omega) (by omega)
  simpa using this

theorem makeN_in (L : List S32) (n : S32) (h : (makeN L n).2.2 = 0) (hL : Good L) : 0 ≤ (makeN L n).2.1 ∧ (makeN L n).2.1 < (makeN L n).1.length := by
  unfold makeN at h ⊢
  by_cases hm : n ∈ L
  · rw [if_pos hm]
    have := List.idxOf_lt_length_of_mem hm
    simp only
    omega
  · rw [if_neg hm] at h ⊢
    by_cases hr : rightN n L = 0
    · rw [if_pos hr] at h ⊢
      by_cases hs : 65536 ≤ (L.length : Int)
      · rw [if_pos hs] at h; simp at h
      · rw [if_neg hs]; simp only [List.length_append, List.length_singleton]; omega
    · rw [if_neg hr] at h; exact absurd h hr

theorem putN_in (l : List S32) (h1 : 1 ≤ l.length) (hl : ∀ j : Nat, j < l.length → kidsIn (rd_T32 l j) j ∧ okN (rd_T32 l j) = true) (d : Nat) : ∀ (L : List S32) (tt : List Int) (i : Nat), i + d = l.length → Good L → tt.length = i → Places tt → (∀ x ∈ tt, 0 ≤ x ∧ x < L.length) → (putN l d L tt i).2.2 = 0 →
    0 ≤ (putN l d L tt i).2.1 ∧ (putN l d L tt i).2.1 < (putN l d L tt i).1.length := by
  induction d with
  | zero =>
    intro L tt i hi hL ht hp hin h
    simp only [putN]
    unfold rd
    have hx : ((l.length : Int) - 1).toNat < tt.length := by omega
    rw [List.getD_eq_getElem?_getD, List.getElem?_eq_getElem hx]
    exact hin _ (List.getElem_mem hx)
  | succ d ih =>
    intro L tt i hi hL ht hp hin h
    have hk := hl i (by omega)
    have hok := okN_moved (rd_T32 l i) tt hk.2 (by rw [ht]; exact hk.1) hp
    simp only [putN] at h ⊢
    by_cases hz : (makeN L (movedN (rd_T32 l i) tt)).2.2 = 0
    · rw [if_pos hz] at h ⊢
      obtain ⟨e1, he1⟩ := makeN_ext L (movedN (rd_T32 l i) tt)
      have hlen : L.length ≤ (makeN L (movedN (rd_T32 l i) tt)).1.length := by rw [he1, List.length_append]; omega
      refine ih _ _ (i + 1) (by omega) (makeN_good L _ hL hok) (by simp [ht]) (fun x hx => ?_) (fun x hx => ?_) h
      · rcases List.mem_append.1 hx with hx | hx
        · exact hp x hx
        · rw [List.mem_singleton.1 hx]; exact makeN_place L _ hL
      · rcases List.mem_append.1 hx with hx | hx
        · have := hin x hx; omega
        · rw [List.mem_singleton.1 hx]; exact makeN_in L _ hz hL
    · rw [if_neg hz] at h
      exact absurd h hz
theorem putA_in (L l : List S32) (hL : Good L) (hf : ∀ a ∈ l, okN a = true) (h : (putA L l).2.2 = 0) : 0 ≤ (putA L l).2.1 ∧ (putA L l).2.1 < (putA L l).1.length := by
  unfold putA at h ⊢
  by_cases hz : (checkN l).1 = 0
  · simp only [if_pos hz] at h ⊢
    exact putN_in l (check_ok hz).1 (check_kids hz hf) l.length L [] 0 (by omega) hL rfl (fun x hx => by simp at hx) (fun x hx => by simp at hx) h
  · simp only [if_neg hz] at h
    exact absurd h hz

end Go.Proofs.Ytkindfbbklkjdaa.Pure
