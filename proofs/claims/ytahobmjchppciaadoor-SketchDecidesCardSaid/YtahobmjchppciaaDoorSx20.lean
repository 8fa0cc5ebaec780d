/- Arrays whose elements are told by a function. -/
import Derived.Test.YtahobmjchppciaaDoorSx18
namespace Go.Proofs.YtahobmjchppciaaDoor.Sx
open Go Go.RowKit
set_option linter.unusedVariables false
set_option linter.unusedSimpArgs false
def arrA {α : Type} (enc : α → AV) (n : Nat) (f : Nat → α) : List AV := (List.range n).map fun j => enc (f j)
abbrev aB (b : Bool) : AV := .v (.bool b)
abbrev aU (x : Int) : AV := .v (.int .u64 x)
abbrev aI (x : Int) : AV := .v (.int .i64 x)
abbrev cat (a b : List AV) : List AV := a ++ b
/-- Another element at a place. -/
def upd {α : Type} (f : Nat → α) (i : Nat) (x : α) : Nat → α := fun j => if j = i then x else f j
theorem arrA_len {α : Type} {enc : α → AV} {n : Nat} {f : Nat → α} : (arrA enc n f).length = n := by simp [arrA]
theorem arrA_get {α : Type} {enc : α → AV} {n : Nat} {f : Nat → α} {i : Nat} (h : i < n) : (arrA enc n f)[i]? = some (enc (f i)) := by
  simp [arrA, h]
theorem arrA_upd {α : Type} {enc : α → AV} {n : Nat} {f : Nat → α} {i : Nat} {x : α} : arrA enc n (upd f i x) = (arrA enc n f).set i (enc x) := by
  apply List.ext_getElem?
  intro j
  by_cases hj : j < n
  · rw [arrA_get hj, List.getElem?_set]
    by_cases e : i = j
    · subst e; simp [upd, arrA_len, hj]
    · rw [if_neg e, arrA_get hj]; simp [upd, Ne.symm e]
  · rw [List.getElem?_eq_none (by rw [arrA_len]; omega), List.getElem?_eq_none (by rw [List.length_set, arrA_len]; omega)]
/-- An array among a block's cells. -/
theorem seg_get {α : Type} (pre : List AV) (enc : α → AV) (n : Nat) (f : Nat → α) (post : List AV) (i : Nat) (h : i < n) : (pre ++ (arrA enc n f ++ post))[pre.length + i * 1]? = some (enc (f i)) := by
  rw [Nat.mul_one, List.getElem?_append_right (by omega), Nat.add_sub_cancel_left, List.getElem?_append_left (by rw [arrA_len]; exact h), arrA_get h]
theorem seg_le {α : Type} (pre : List AV) (enc : α → AV) (n : Nat) (f : Nat → α) (post : List AV) (i : Nat) (x : α) (h : i < n) : pre.length + i * 1 + [enc x].length ≤ (pre ++ (arrA enc n f ++ post)).length := by
  simp [arrA_len]; omega
theorem take_set_drop {β : Type} : ∀ (l : List β) (i : Nat) (x : β), i < l.length → l.take i ++ [x] ++ l.drop (i + 1) = l.set i x
  | a :: l, 0, x, _ => by simp
  | a :: l, i + 1, x, h => by
    have := take_set_drop l i x (by simpa using h)
    simp only [List.take_succ_cons, List.drop_succ_cons, List.set_cons_succ, List.cons_append, this]
  | [], i, x, h => by simp at h
theorem seg_set {α : Type} (pre : List AV) (enc : α → AV) (n : Nat) (f : Nat → α) (post : List AV) (i : Nat) (x : α) (h : i < n) :
    (pre ++ (arrA enc n f ++ post)).take (pre.length + i * 1) ++ [enc x] ++ (pre ++ (arrA enc n f ++ post)).drop (pre.length + i * 1 + [enc x].length) = pre ++ (arrA enc n (upd f i x) ++ post) := by
  rw [Nat.mul_one, show [enc x].length = 1 from rfl, take_set_drop _ _ _ (by simp [arrA_len]; omega), List.set_append_right _ _ (by omega), Nat.add_sub_cancel_left, List.set_append_left _ _ (by rw [arrA_len]; exact h), arrA_upd]
theorem arrA_getI {α : Type} (enc : α → AV) (n : Nat) (f : Nat → α) (i : Nat) (h : i < n) : (arrA enc n f)[i]? = some (enc (f i)) := arrA_get h
/-- A row written over, a row cut. -/
theorem cpE {α : Type} (enc : α → List Value) (a b : List α) : (b.map enc).take a.length ++ (a.map enc).drop b.length = (b.take a.length ++ a.drop b.length).map enc ∧ a.length = (b.take a.length ++ a.drop b.length).length := by
  refine ⟨by simp, ?_⟩
  simp only [List.length_append, List.length_take, List.length_drop]
  omega
theorem ctE {α : Type} (enc : α → List Value) (a : List α) (n : Nat) (h : n ≤ a.length) : (a.map enc).take n = (a.take n).map enc ∧ n = (a.take n).length := by
  refine ⟨by simp, ?_⟩
  rw [List.length_take]; omega
end Go.Proofs.YtahobmjchppciaaDoor.Sx
