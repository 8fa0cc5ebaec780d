/- Layer 6 (term), the plain law of putting: a node whose kids' places are told anew; a term put node by node. -/
import Derived.Test.YtkindfbbklkjdaaPureM
import Derived.Test.YtkindfbbklkjdaaPx28
namespace Go.Proofs.Ytkindfbbklkjdaa.Pure
open Go.RowKit Go.Proofs.Ytkindfbbklkjdaa.P Go.Proofs.YtkindfbbklkjdaaW.PrintWords Go.Proofs.YtkindfbbklkjdaaW.PrintLast Go.Proofs.YtkindfbbklkjdaaW.PrintMore
set_option linter.unusedVariables false
set_option linter.unusedSimpArgs false

/-- A node, its kids' places told anew. -/
def movedN (n : S32) (tt : List Int) : S32 := ⟨n.f0, n.f1, n.f2, ⟨if 0 < kidsN n.f0 then rd tt n.f3.f0 else n.f3.f0, if 1 < kidsN n.f0 then rd tt n.f3.f1 else n.f3.f1, if 2 < kidsN n.f0 then rd tt n.f3.f2 else n.f3.f2⟩⟩
/-- Are its kids' places within? -/
def kidsIn (n : S32) (m : Nat) : Prop := (0 < kidsN n.f0 → 0 ≤ n.f3.f0 ∧ n.f3.f0 < m) ∧ (1 < kidsN n.f0 → 0 ≤ n.f3.f1 ∧ n.f3.f1 < m) ∧ (2 < kidsN n.f0 → 0 ≤ n.f3.f2 ∧ n.f3.f2 < m)
def six (n : S32) : Int × Int × Int × Int × Int × Int := (n.f0, n.f1, n.f2, n.f3.f0, n.f3.f1, n.f3.f2)

theorem moved_eq (n : S32) (tt : List Int) (h : kidsIn n tt.length) : Ult (fun k => term_moved.f k n.f0 n.f1 n.f2 n.f3.f0 n.f3.f1 n.f3.f2 tt) (six (movedN n tt)) := by
  obtain ⟨h0, h1, h2⟩ := h
  simp only [term_moved.f]
  refine Ult.bind (kids_term n.f0) ?_
  have hr := kidsN_range n.f0
  refine ⟨4, fun k hk => ?_⟩
  obtain ⟨k, rfl⟩ : ∃ m, k = m + 4 := ⟨k - 4, by omega⟩
  unfold movedN six
  have hc : kidsN n.f0 = 0 ∨ kidsN n.f0 = 1 ∨ kidsN n.f0 = 2 ∨ kidsN n.f0 = 3 := by omega
  rcases hc with e | e | e | e
  · simp [term_moved.l0, e]
  · have a0 := h0 (by omega)
    simp [term_moved.l0, e, a0, wrap64]
  · have a0 := h0 (by omega)
    have a1 := h1 (by omega)
    simp [term_moved.l0, e, a0, a1, wrap64]
  · have a0 := h0 (by omega)
    have a1 := h1 (by omega)
    have a2 := h2 (by omega)
    simp [term_moved.l0, e, a0, a1, a2, wrap64]

theorem told_eq (n : S32) (tt : List Int) (h : kidsIn n tt.length) : Ult (fun k => backreachref06_told.f k n.f0 n.f1 n.f2 n.f3.f0 n.f3.f1 n.f3.f2 tt) (six (movedN n tt)) := by
  obtain ⟨h0, h1, h2⟩ := h
  simp only [backreachref06_told.f]
  obtain ⟨K, hK⟩ := kids_ref n.f0
  have hr := kidsN_range n.f0
  refine ⟨K + 4, fun k hk => ?_⟩
  obtain ⟨k, rfl⟩ : ∃ m, k = m + 4 := ⟨k - 4, by omega⟩
  have hK' : ∀ j, K ≤ j → backreachref06_Kids.f j n.f0 = some (kidsN n.f0) := hK
  unfold movedN six
  have hc : kidsN n.f0 = 0 ∨ kidsN n.f0 = 1 ∨ kidsN n.f0 = 2 ∨ kidsN n.f0 = 3 := by omega
  have e0 := hK' k (by omega)
  have e1 := hK' (k + 1) (by omega)
  have e2 := hK' (k + 2) (by omega)
  have e3 := hK' (k + 3) (by omega)
  rcases hc with e | e | e | e
  · simp [backreachref06_told.l0, e0, e1, e2, e3, e]
  · have a0 := h0 (by omega)
    simp [backreachref06_told.l0, e0, e1, e2, e3, e, a0, wrap64]
  · have a0 := h0 (by omega)
    have a1 := h1 (by omega)
    simp [backreachref06_told.l0, e0, e1, e2, e3, e, a0, a1, wrap64]
  · have a0 := h0 (by omega)
    have a1 := h1 (by omega)
    have a2 := h2 (by omega)
    simp [backreachref06_told.l0, e0, e1, e2, e3, e, a0, a1, a2, wrap64]

/-- What an arena's list is like: each node is right behind those ahead of it, none stands twice. -/
structure Good (L : List S32) : Prop where
  size : L.length ≤ 65536
  right : ∀ j : Nat, j < L.length → rightN (rd_T32 L j) (L.take j) = 0
  fit : ∀ a ∈ L, okN a = true
  dist : L.Nodup

theorem prefix_wide (L : List S32) (h : ∀ j : Nat, j < L.length → rightN (rd_T32 L j) (L.take j) = 0) (i : Nat) (hi : i ≤ L.length) : ∀ a ∈ L.take i, 0 ≤ a.f1 := by
  induction i with
  | zero => simp
  | succ i ih =>
    intro a ha
    have ih' := ih (by omega)
    rcases take_next L i (by omega) a ha with h' | h'
    · exact ih' a h'
    · rw [h']; exact right_wide _ _ ih' (h i (by omega))
theorem Good.wide {L : List S32} (h : Good L) : ∀ a ∈ L, 0 ≤ a.f1 := by
  have := prefix_wide L h.right L.length (Nat.le_refl _)
  rwa [List.take_length] at this
theorem Good.nil : Good [] := ⟨by simp, fun j hj => by simp at hj, by simp, List.nodup_nil⟩

theorem rd_app (L : List S32) (n : S32) (j : Nat) (h : j < L.length) : rd_T32 (L ++ [n]) (j : Int) = rd_T32 L (j : Int) := by
  rw [rd_get _ j (by simp; omega), rd_get _ j h, List.getElem_append_left h]
theorem rd_last (L : List S32) (n : S32) : rd_T32 (L ++ [n]) (L.length : Int) = n := by
  rw [rd_get _ L.length (by simp)]; simp

theorem makeN_good (L : List S32) (n : S32) (h : Good L) (hn : okN n = true) : Good (makeN L n).1 := by
  unfold makeN
  by_cases hm : n ∈ L
  · rw [if_pos hm]; exact h
  · rw [if_neg hm]
    by_cases hr : rightN n L = 0
    · rw [if_pos hr]
      by_cases hs : 65536 ≤ (L.length : Int)
      · rw [if_pos hs]; exact h
      · rw [if_neg hs]
        refine ⟨by simp; omega, fun j hj => ?_, ?_, ?_⟩
        · simp only [List.length_append, List.length_singleton] at hj
          by_cases hj' : j < L.length
          · rw [rd_app L n j hj', List.take_append_of_le_length (by omega)]
            exact h.right j hj'
          · have e : j = L.length := by omega
            subst e
            rw [rd_last, List.take_left]
            exact hr
        · intro a ha
          rcases List.mem_append.1 ha with ha | ha
          · exact h.fit a ha
          · rw [List.mem_singleton.1 ha]; exact hn
        · exact List.nodup_append.2 ⟨h.dist, by simp, fun a ha b hb e => hm (by rw [List.mem_singleton.1 hb] at e; exact e ▸ ha)⟩
    · rw [if_neg hr]; exact h
theorem makeN_place (L : List S32) (n : S32) (h : Good L) : 0 ≤ (makeN L n).2.1 ∧ (makeN L n).2.1 ≤ 65536 := by
  have hs := h.size
  unfold makeN
  by_cases hm : n ∈ L
  · rw [if_pos hm]
    have := List.idxOf_lt_length_of_mem hm
    simp only
    omega
  · rw [if_neg hm]
    by_cases hr : rightN n L = 0
    · rw [if_pos hr]
      by_cases hz : 65536 ≤ (L.length : Int)
      · rw [if_pos hz]; simp
      · rw [if_neg hz]; simp only; omega
    · rw [if_neg hr]; simp

/-- A term is put node by node. -/
def putN (l : List S32) : Nat → List S32 → List Int → Nat → List S32 × Int × Int
  | 0, L, tt, _ => (L, rd tt ((l.length : Int) - 1), 0)
  | d + 1, L, tt, i => if (makeN L (movedN (rd_T32 l i) tt)).2.2 = 0 then putN l d (makeN L (movedN (rd_T32 l i) tt)).1 (tt ++ [(makeN L (movedN (rd_T32 l i) tt)).2.1]) (i + 1) else ((makeN L (movedN (rd_T32 l i) tt)).1, 0, (makeN L (movedN (rd_T32 l i) tt)).2.2)

def Places (tt : List Int) : Prop := ∀ x ∈ tt, 0 ≤ x ∧ x ≤ 65536
theorem wf64_place {x : Int} (h : 0 ≤ x ∧ x ≤ 65536) : wf64 x = true := by
  unfold wf64
  simp only [Lit.wf, Bool.and_eq_true, decide_eq_true_eq]
  have h1 : (IntKind.i64).min = -9223372036854775808 := by decide
  have h2 : (IntKind.i64).max = 9223372036854775807 := by decide
  rw [h1, h2]
  omega
theorem rd_place (tt : List Int) (h : Places tt) (i : Int) (h0 : 0 ≤ i) (h1 : i < tt.length) : 0 ≤ rd tt i ∧ rd tt i ≤ 65536 := by
  unfold rd
  have hi : i.toNat < tt.length := by omega
  rw [List.getD_eq_getElem?_getD, List.getElem?_eq_getElem hi]
  exact h _ (List.getElem_mem hi)
theorem okN_moved (n : S32) (tt : List Int) (hn : okN n = true) (hk : kidsIn n tt.length) (ht : Places tt) : okN (movedN n tt) = true := by
  unfold okN movedN at *
  simp only [Bool.and_eq_true] at hn ⊢
  obtain ⟨⟨⟨⟨⟨g0, g1⟩, g2⟩, g3⟩, g4⟩, g5⟩ := hn
  refine ⟨⟨⟨⟨⟨g0, g1⟩, g2⟩, ?_⟩, ?_⟩, ?_⟩
  · split
    · rename_i h; exact wf64_place (rd_place tt ht _ (hk.1 h).1 (hk.1 h).2)
    · exact g3
  · split
    · rename_i h; exact wf64_place (rd_place tt ht _ (hk.2.1 h).1 (hk.2.1 h).2)
    · exact g4
  · split
    · rename_i h; exact wf64_place (rd_place tt ht _ (hk.2.2 h).1 (hk.2.2 h).2)
    · exact g5

theorem rd_take (ta : List Int) (i : Nat) (x : Int) (h0 : 0 ≤ x) (h1 : x < i) : rd (ta.take i) x = rd ta x := by
  unfold rd
  rw [List.getD_eq_getElem?_getD, List.getD_eq_getElem?_getD, List.getElem?_take, if_pos (by omega)]
theorem moved_take (n : S32) (ta : List Int) (i : Nat) (hk : kidsIn n i) : movedN n (ta.take i) = movedN n ta := by
  unfold movedN
  congr 1
  congr 1
  · split
    · rename_i h; exact rd_take ta i _ (hk.1 h).1 (hk.1 h).2
    · rfl
  · split
    · rename_i h; exact rd_take ta i _ (hk.2.1 h).1 (hk.2.1 h).2
    · rfl
  · split
    · rename_i h; exact rd_take ta i _ (hk.2.2 h).1 (hk.2.2 h).2
    · rfl

theorem right_kids (n : S32) (l : List S32) (h : rightN n l = 0) : kidsIn n l.length := by
  unfold rightN at h
  by_cases ho : n.f0 < 0 ∨ n.f0 > 24
  · rw [if_pos ho] at h; omega
  · rw [if_neg ho] at h
    by_cases hk : kidsOk n l
    · obtain ⟨a, b, c⟩ := hk
      unfold kidOk at a b c
      refine ⟨fun h => ?_, fun h => ?_, fun h => ?_⟩
      · rw [if_neg (by omega)] at a; exact a
      · rw [if_neg (by omega)] at b; exact b
      · rw [if_neg (by omega)] at c; exact c
    · rw [if_pos hk] at h; omega

theorem chk_all (l : List S32) (d : Nat) : ∀ i, i + d = l.length → (chk l d i).1 = 0 → ∀ j : Nat, i ≤ j → j < l.length → rightN (rd_T32 l j) (l.take j) = 0 := by
  induction d with
  | zero => intro i hi _ j h1 h2; omega
  | succ d ih =>
    intro i hi h j h1 h2
    simp only [chk] at h
    by_cases h6 : i = 65536
    · rw [if_pos h6] at h; simp at h
    · rw [if_neg h6] at h
      by_cases hr : rightN (rd_T32 l i) (l.take i) = 0
      · rw [if_pos hr] at h
        by_cases e : i = j
        · rw [← e]; exact hr
        · exact ih (i + 1) (by omega) h j (by omega) h2
      · rw [if_neg hr] at h; exact absurd h hr

theorem putN_good (l : List S32) (hl : ∀ j : Nat, j < l.length → kidsIn (rd_T32 l j) j ∧ okN (rd_T32 l j) = true) (d : Nat) : ∀ (L : List S32) (tt : List Int) (i : Nat), i + d = l.length → Good L → tt.length = i → Places tt → Good (putN l d L tt i).1 := by
  induction d with
  | zero => intro L tt i _ hL _ _; exact hL
  | succ d ih =>
    intro L tt i hi hL ht hp
    have hk := hl i (by omega)
    have hok := okN_moved (rd_T32 l i) tt hk.2 (by rw [ht]; exact hk.1) hp
    simp only [putN]
    by_cases hz : (makeN L (movedN (rd_T32 l i) tt)).2.2 = 0
    · rw [if_pos hz]
      exact ih _ _ (i + 1) (by omega) (makeN_good L _ hL hok) (by simp [ht]) (fun x hx => by
        rcases List.mem_append.1 hx with hx | hx
        · exact hp x hx
        · rw [List.mem_singleton.1 hx]; exact makeN_place L _ hL)
    · rw [if_neg hz]
      exact makeN_good L _ hL hok

theorem put_term_from (l : List S32) (hs : l.length < 4611686018427387904) (h1 : 1 ≤ l.length) (hl : ∀ j : Nat, j < l.length → kidsIn (rd_T32 l j) j ∧ okN (rd_T32 l j) = true) (d : Nat) :
    ∀ (L : List S32) (m : Int) (tt ta : List Int) (i : Nat), i + d = l.length → Good L → tt.length = i → Places tt → ta.length = l.length → ta.take i = tt →
      ∃ m', Ult (fun k => term_Arena_Put.l0 k L m l ta (i : Int)) ((putN l d L tt i).1, m', (putN l d L tt i).2.1, (putN l d L tt i).2.2) := by
  induction d with
  | zero =>
    intro L m tt ta i hi hL ht hp hta hpre
    refine ⟨m, 1, fun k hk => ?_⟩
    obtain ⟨k, rfl⟩ : ∃ m, k = m + 1 := ⟨k - 1, by omega⟩
    simp only [term_Arena_Put.l0, putN]
    have hw : wrap64 ((l.length : Int) - 1) = (l.length : Int) - 1 := by unfold wrap64; omega
    rw [if_neg (by omega), hw, if_pos (by omega), if_pos (by omega), ← hpre, rd_take ta i _ (by omega) (by omega)]
  | succ d ih =>
    intro L m tt ta i hi hL ht hp hta hpre
    have hk := hl i (by omega)
    have hok := okN_moved (rd_T32 l i) tt hk.2 (by rw [ht]; exact hk.1) hp
    have hmv : movedN (rd_T32 l i) ta = movedN (rd_T32 l i) tt := by rw [← hpre]; exact (moved_take _ ta i hk.1).symm
    have hkt : kidsIn (rd_T32 l i) ta.length := by
      obtain ⟨a, b, c⟩ := hk.1
      exact ⟨fun h => ⟨(a h).1, by have := (a h).2; omega⟩, fun h => ⟨(b h).1, by have := (b h).2; omega⟩, fun h => ⟨(c h).1, by have := (c h).2; omega⟩⟩
    have first : ∀ m' r, (Ult (fun k => if (makeN L (movedN (rd_T32 l i) tt)).2.2 = 0 then (if (i : Int) < (ta.length : Int) then term_Arena_Put.l0 k (makeN L (movedN (rd_T32 l i) tt)).1 (wrap64 (m + 1)) l (ta.set (i : Int).toNat (makeN L (movedN (rd_T32 l i) tt)).2.1) (wrap64 ((i : Int) + 1)) else none) else some ((makeN L (movedN (rd_T32 l i) tt)).1, wrap64 (m + 1), 0, (makeN L (movedN (rd_T32 l i) tt)).2.2)) (r.1, m', r.2.1, r.2.2)) → Ult (fun k => term_Arena_Put.l0 k L m l ta (i : Int)) ((r : List S32 × Int × Int).1, m', r.2.1, r.2.2) := by
      intro m' r h
      refine Ult.step (f := fun k => (term_moved.f k (rd_T32 l i).f0 (rd_T32 l i).f1 (rd_T32 l i).f2 (rd_T32 l i).f3.f0 (rd_T32 l i).f3.f1 (rd_T32 l i).f3.f2 ta).bind fun b => (term_Arena_Make.f k L ⟨b.1, b.2.1, b.2.2.1, ⟨b.2.2.2.1, b.2.2.2.2.1, b.2.2.2.2.2⟩⟩).bind fun q => if q.2.2 = 0 then (if (i : Int) < (ta.length : Int) then term_Arena_Put.l0 k q.1 (wrap64 (m + 1)) l (ta.set (i : Int).toNat q.2.1) (wrap64 ((i : Int) + 1)) else none) else some (q.1, wrap64 (m + 1), 0, q.2.2)) 1 (fun k => ?_) ?_
      · simp only [term_Arena_Put.l0]
        rw [if_pos (by omega), if_pos (by omega)]
      · refine Ult.bind (moved_eq (rd_T32 l i) ta hkt) ?_
        rw [hmv]
        exact Ult.bind (make_term L (movedN (rd_T32 l i) tt) hok) h
    simp only [putN]
    by_cases hz : (makeN L (movedN (rd_T32 l i) tt)).2.2 = 0
    · rw [if_pos hz]
      obtain ⟨m', hm'⟩ := ih (makeN L (movedN (rd_T32 l i) tt)).1 (wrap64 (m + 1)) (tt ++ [(makeN L (movedN (rd_T32 l i) tt)).2.1]) (ta.set i (makeN L (movedN (rd_T32 l i) tt)).2.1) (i + 1) (by omega) (makeN_good L _ hL hok) (by simp [ht]) (fun x hx => by
        rcases List.mem_append.1 hx with hx | hx
        · exact hp x hx
        · rw [List.mem_singleton.1 hx]; exact makeN_place L _ hL) (by simp [hta]) (by
          rw [List.take_add_one, List.take_set_of_le (Nat.le_refl _), hpre]
          rw [List.getElem?_set_self (by omega)]
          rfl)
      refine ⟨m', first m' _ ?_⟩
      simp only [if_pos hz]
      simp only [if_pos (show (i : Int) < (ta.length : Int) by omega)]
      have hw : wrap64 ((i : Int) + 1) = ((i + 1 : Nat) : Int) := by unfold wrap64; omega
      rw [hw, Int.toNat_natCast]
      exact hm'
    · rw [if_neg hz]
      refine ⟨wrap64 (m + 1), first _ ((makeN L (movedN (rd_T32 l i) tt)).1, 0, (makeN L (movedN (rd_T32 l i) tt)).2.2) ?_⟩
      simp only [if_neg hz]
      exact Ult.now _

theorem put_ref_from (l : List S32) (hs : l.length < 4611686018427387904) (hb : l.length < 17592186044416) (h1 : 1 ≤ l.length) (hl : ∀ j : Nat, j < l.length → kidsIn (rd_T32 l j) j ∧ okN (rd_T32 l j) = true) (d : Nat) :
    ∀ (L : List S32) (tt : List Int) (i : Nat), i + d = l.length → Good L → tt.length = i → Places tt → Ult (fun k => backreachref06_Put.l0 k L l tt (i : Int)) (putN l d L tt i) := by
  induction d with
  | zero =>
    intro L tt i hi hL ht hp
    refine ⟨1, fun k hk => ?_⟩
    obtain ⟨k, rfl⟩ : ∃ m, k = m + 1 := ⟨k - 1, by omega⟩
    simp only [backreachref06_Put.l0, putN]
    have hw : wrap64 ((tt.length : Int) - 1) = (l.length : Int) - 1 := by unfold wrap64; omega
    rw [if_neg (by omega), hw, if_pos (by omega), if_pos (by omega)]
  | succ d ih =>
    intro L tt i hi hL ht hp
    have hk := hl i (by omega)
    have hok := okN_moved (rd_T32 l i) tt hk.2 (by rw [ht]; exact hk.1) hp
    refine Ult.step (f := fun k => (backreachref06_told.f k ((rd_T32 l i).f0) ((rd_T32 l i).f1) ((rd_T32 l i).f2) ((rd_T32 l i).f3.f0) ((rd_T32 l i).f3.f1) ((rd_T32 l i).f3.f2) tt).bind fun bt207 => ((backreachref06_Make.f k L bt207.1 bt207.2.1 bt207.2.2.1 bt207.2.2.2.1 bt207.2.2.2.2.1 bt207.2.2.2.2.2).bind fun bt213 => (if bt213.2.2 = 0 then (backreachref06_Put.l0 k bt213.1 l (tt ++ [bt213.2.1]) ((i + 1 : Nat) : Int)) else (some (bt213.1, 0, bt213.2.2))))) 1 (fun k => ?_) ?_
    · simp only [backreachref06_Put.l0]
      have hw : wrap64 ((i : Int) + 1) = ((i + 1 : Nat) : Int) := by unfold wrap64; omega
      rw [if_pos (by omega), if_pos (by omega), hw]
      simp only [if_pos (show tt.length < 17592186044416 by omega)]
    · refine Ult.bind (told_eq (rd_T32 l i) tt (by rw [ht]; exact hk.1)) ?_
      refine Ult.bind (make_ref L (movedN (rd_T32 l i) tt) hL.wide hL.size) ?_
      simp only [putN]
      by_cases hz : (makeN L (movedN (rd_T32 l i) tt)).2.2 = 0
      · simp only [if_pos hz]
        exact ih _ _ (i + 1) (by omega) (makeN_good L _ hL hok) (by simp [ht]) (fun x hx => by
          rcases List.mem_append.1 hx with hx | hx
          · exact hp x hx
          · rw [List.mem_singleton.1 hx]; exact makeN_place L _ hL)
      · simp only [if_neg hz]
        exact Ult.now _

/-- Where a term stands. -/
def putA (L l : List S32) : List S32 × Int × Int := if (checkN l).1 = 0 then putN l l.length L [] 0 else (L, 0, (checkN l).1)

theorem check_ok {l : List S32} (h : (checkN l).1 = 0) : 1 ≤ l.length ∧ ∀ j : Nat, j < l.length → rightN (rd_T32 l j) (l.take j) = 0 := by
  by_cases hl : l.length = 0
  · unfold checkN at h; rw [if_pos hl] at h; simp at h
  · rw [show checkN l = chk l l.length 0 from by unfold checkN; rw [if_neg hl]] at h
    exact ⟨by omega, fun j hj => chk_all l l.length 0 (by omega) h j (by omega) hj⟩
theorem check_kids {l : List S32} (h : (checkN l).1 = 0) (hf : ∀ a ∈ l, okN a = true) (j : Nat) (hj : j < l.length) : kidsIn (rd_T32 l j) j ∧ okN (rd_T32 l j) = true := by
  have := right_kids _ _ ((check_ok h).2 j hj)
  rw [List.length_take, Nat.min_eq_left (by omega)] at this
  exact ⟨this, hf _ (rd_mem l j (by omega) (by omega))⟩
theorem fine_of {l : List S32} (hf : ∀ a ∈ l, okN a = true) : Fine l := fun a ha => okN_num (hf a ha)

theorem put_term (L : List S32) (m : Int) (l : List S32) (hL : Good L) (hf : ∀ a ∈ l, okN a = true) (hs : l.length < 17592186044416) :
    ∃ m', Ult (fun k => term_Arena_Put.f k L m l) ((putA L l).1, m', (putA L l).2.1, (putA L l).2.2) := by
  unfold putA
  by_cases hz : (checkN l).1 = 0
  · rw [if_pos hz]
    have h1 := (check_ok hz).1
    obtain ⟨m', hm⟩ := put_term_from l (by omega) h1 (check_kids hz hf) l.length L m [] (List.replicate l.length 0) 0 (by omega) hL rfl (fun x hx => by simp at hx) (by simp) (by simp)
    refine ⟨m', ?_⟩
    simp only [term_Arena_Put.f]
    refine Ult.bind (check_term l (fine_of hf) (by omega)) ?_
    simp only [if_pos hz, Int.toNat_natCast]
    simp only [if_pos (show l.length ≤ 35184372088832 by omega)]
    exact hm
  · rw [if_neg hz]
    refine ⟨m, ?_⟩
    simp only [term_Arena_Put.f]
    refine Ult.bind (check_term l (fine_of hf) (by omega)) ?_
    simp only [if_neg hz]
    exact Ult.now _
theorem put_ref (L l : List S32) (hL : Good L) (hf : ∀ a ∈ l, okN a = true) (hs : l.length < 17592186044416) : Ult (fun k => backreachref06_Put.f k L l) (putA L l) := by
  unfold putA
  by_cases hz : (checkN l).1 = 0
  · rw [if_pos hz]
    simp only [backreachref06_Put.f]
    refine Ult.bind (check_ref l (by omega)) ?_
    simp only [if_pos hz]
    exact put_ref_from l (by omega) hs (check_ok hz).1 (check_kids hz hf) l.length L [] 0 (by omega) hL rfl (fun x hx => by simp at hx)
  · rw [if_neg hz]
    simp only [backreachref06_Put.f]
    refine Ult.bind (check_ref l (by omega)) ?_
    simp only [if_neg hz]
    exact Ult.now _
theorem put_good (L l : List S32) (hL : Good L) (hf : ∀ a ∈ l, okN a = true) : Good (putA L l).1 := by
  unfold putA
  by_cases hz : (checkN l).1 = 0
  · rw [if_pos hz]
    exact putN_good l (check_kids hz hf) l.length L [] 0 (by omega) hL rfl (fun x hx => by simp at hx)
  · rw [if_neg hz]; exact hL

end Go.Proofs.Ytkindfbbklkjdaa.Pure
