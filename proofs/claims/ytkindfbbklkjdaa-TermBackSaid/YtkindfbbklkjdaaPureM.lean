/- Layer 6 (term), the plain law of making: where a node stands, in the arena and in the document's list. -/
import Derived.Test.YtkindfbbklkjdaaPureA
import Derived.Test.YtkindfbbklkjdaaPx17
import Derived.Test.YtkindfbbklkjdaaGi
namespace Go.Proofs.Ytkindfbbklkjdaa.Pure
open Go.RowKit Go.Proofs.Ytkindfbbklkjdaa.P Go.Proofs.YtkindfbbklkjdaaW.PrintWords Go.Proofs.YtkindfbbklkjdaaW.PrintLast Go.Proofs.YtkindfbbklkjdaaW.PrintMore
set_option linter.unusedVariables false
set_option linter.unusedSimpArgs false

theorem okN_num {n : S32} (h : okN n = true) : 0 ≤ n.f2 ∧ n.f2 ≤ 18446744073709551615 := by
  unfold okN wfu at h
  simp only [Bool.and_eq_true] at h
  have h2 := h.1.1.1.2
  simp only [Lit.wf, Bool.and_eq_true, decide_eq_true_eq] at h2
  have h3 : (IntKind.u64).min = 0 := by decide
  have h4 : (IntKind.u64).max = 18446744073709551615 := by decide
  rw [h3, h4] at h2
  exact h2

/-- Where a node stands; or its error. -/
def makeN (L : List S32) (n : S32) : List S32 × Int × Int :=
  if n ∈ L then (L, (L.idxOf n : Nat), 0)
  else if rightN n L = 0 then (if 65536 ≤ (L.length : Int) then (L, 0, 10) else (L ++ [n], L.length, 0)) else (L, 0, rightN n L)

theorem make_term (L : List S32) (n : S32) (h : okN n = true) : Ult (fun k => term_Arena_Make.f k L n) (makeN L n) := by
  unfold makeN
  simp only [term_Arena_Make.f, if_pos h]
  by_cases hm : n ∈ L
  · simp only [if_pos hm]; exact Ult.now _
  · simp only [if_neg hm]
    refine Ult.bind (right_term n L (okN_num h).1 (okN_num h).2) ?_
    by_cases hr : rightN n L = 0
    · simp only [if_pos hr]
      by_cases hs : 65536 ≤ (L.length : Int)
      · simp only [if_pos hs]; exact Ult.now _
      · simp only [if_neg hs]; exact Ult.now _
    · simp only [if_neg hr]; exact Ult.now _

theorem eq_of_fields {a n : S32} (h : (a.f0 == n.f0 && (a.f1 == n.f1 && (a.f2 == n.f2 && (a.f3.f0 == n.f3.f0 && (a.f3.f1 == n.f3.f1 && (a.f3.f2 == n.f3.f2)))))) = true) : a = n := by
  obtain ⟨a0, a1, a2, a3, a4, a5⟩ := a
  obtain ⟨n0, n1, n2, n3, n4, n5⟩ := n
  simp at h
  obtain ⟨rfl, rfl, rfl, rfl, rfl, rfl⟩ := h
  rfl
theorem fields_self (n : S32) : (n.f0 == n.f0 && (n.f1 == n.f1 && (n.f2 == n.f2 && (n.f3.f0 == n.f3.f0 && (n.f3.f1 == n.f3.f1 && (n.f3.f2 == n.f3.f2)))))) = true := by simp

def findN (L : List S32) (n : S32) : Int := if n ∈ L then (L.idxOf n : Nat) else -1
theorem rd_get (L : List S32) (i : Nat) (h : i < L.length) : rd_T32 L (i : Int) = L[i] := by
  unfold rd_T32
  rw [Int.toNat_natCast, List.getD_eq_getElem?_getD, List.getElem?_eq_getElem h]
  rfl
theorem find_from (L : List S32) (n : S32) (hs : L.length < 4611686018427387904) (d : Nat) : ∀ i : Nat, i + d = L.length → n ∉ L.take i → Ult (fun k => backreachref06_Find.l0 k L (i : Int) n.f0 n.f1 n.f2 n.f3.f0 n.f3.f1 n.f3.f2) (findN L n) := by
  induction d with
  | zero =>
    intro i hi hno
    have hm : n ∉ L := by rw [List.take_of_length_le (by omega)] at hno; exact hno
    unfold findN
    rw [if_neg hm]
    exact ⟨1, fun k hk => by obtain ⟨k, rfl⟩ : ∃ m, k = m + 1 := ⟨k - 1, by omega⟩; simp only [backreachref06_Find.l0]; rw [if_neg (by omega)]⟩
  | succ d ih =>
    intro i hi hno
    have hlt : i < L.length := by omega
    by_cases he : L[i] = n
    · have hm : n ∈ L := he ▸ List.getElem_mem hlt
      have hidx : L.idxOf n = i := by
        have h1 : ¬ i < L.idxOf n := fun h => by
          have := List.not_of_lt_findIdx (p := (· == n)) (xs := L) h
          simp [he] at this
        have h2 : ¬ L.idxOf n < i := fun h => hno (by
          have hl := List.idxOf_lt_length_of_mem hm
          rw [List.mem_take_iff_getElem]
          exact ⟨L.idxOf n, by omega, List.getElem_idxOf hl⟩)
        omega
      unfold findN
      rw [if_pos hm, hidx]
      refine ⟨1, fun k hk => ?_⟩
      obtain ⟨k, rfl⟩ : ∃ m, k = m + 1 := ⟨k - 1, by omega⟩
      simp only [backreachref06_Find.l0]
      rw [if_pos (by omega), if_pos (by omega), rd_get L i hlt, he, if_pos (fields_self n)]
    · refine Ult.step (f := fun k => backreachref06_Find.l0 k L ((i + 1 : Nat) : Int) n.f0 n.f1 n.f2 n.f3.f0 n.f3.f1 n.f3.f2) 1 (fun k => ?_) (ih (i + 1) (by omega) (fun h => ?_))
      · simp only [backreachref06_Find.l0]
        rw [if_pos (by omega), if_pos (by omega), rd_get L i hlt, if_neg (fun h => he (eq_of_fields h))]
        have hw : wrap64 ((i : Int) + 1) = ((i + 1 : Nat) : Int) := by unfold wrap64; omega
        rw [hw]
      · rcases take_next L i hlt n h with h | h
        · exact hno h
        · rw [rd_get L i hlt] at h; exact he h.symm

theorem make_ref (L : List S32) (n : S32) (hL : ∀ a ∈ L, 0 ≤ a.f1) (hs : L.length ≤ 65536) : Ult (fun k => backreachref06_Make.f k L n.f0 n.f1 n.f2 n.f3.f0 n.f3.f1 n.f3.f2) (makeN L n) := by
  unfold makeN
  simp only [backreachref06_Make.f]
  refine Ult.bind (find_from L n (by omega) L.length 0 (by omega) (by simp)) ?_
  by_cases hm : n ∈ L
  · have e : findN L n = (L.idxOf n : Nat) := by unfold findN; rw [if_pos hm]
    simp only [if_pos hm, e]
    simp only [if_pos (show ((L.idxOf n : Nat) : Int) ≥ 0 by omega)]
    exact Ult.now _
  · have e : findN L n = -1 := by unfold findN; rw [if_neg hm]
    simp only [if_neg hm, e]
    simp only [if_neg (show ¬ ((-1 : Int) ≥ 0) by omega)]
    refine Ult.bind (right_ref n L hL) ?_
    by_cases hr : rightN n L = 0
    · simp only [if_pos hr]
      by_cases hz : 65536 ≤ (L.length : Int)
      · simp only [if_pos hz, ge_iff_le]; exact Ult.now _
      · simp only [if_neg hz, ge_iff_le]
        simp only [Option.bind_some, List.length_nil, List.nil_append, List.length_singleton]
        simp only [if_pos (show 0 + L.length < 2932031007402 by omega), if_pos (show L.length + 1 < 2932031007402 by omega)]
        exact Ult.now _
    · simp only [if_neg hr]; exact Ult.now _

end Go.Proofs.Ytkindfbbklkjdaa.Pure
