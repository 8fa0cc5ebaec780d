/- Known bits, the plain law: known.Apply's table, of natural numbers; what holds of its bits. -/
import Derived.Test.YtidabafobpbniaaDoorPureKT
namespace Go.Proofs.YtidabafobpbniaaDoor.Pure
open Go.RowKit Go.Proofs.YtidabafobpbniaaDoor.P Go.Proofs.YtidabafobpbniaaDoorW.PrintWords Go.Proofs.YtidabafobpbniaaDoorW.PrintLast Go.Proofs.YtidabafobpbniaaDoorW.PrintMore
set_option linter.unusedVariables false
set_option linter.unusedSimpArgs false

def isOpK (op : Int) : Prop := 5 ≤ op ∧ op ≤ 21 ∧ op ≠ 6 ∧ op ≠ 7
instance (op : Int) : Decidable (isOpK op) := by unfold isOpK; infer_instance
/-- The width of an answer. -/
def ansK (op : Int) (W : Nat) : Nat := if op ≥ 19 then 1 else W
def allK (b : Nat × Nat) : Nat := b.1 ||| b.2
def tableK (op : Int) (W : Nat) (x y : Nat × Nat) : Nat × Nat :=
  if op = 5 then (x.2, x.1)
  else if op = 13 then (x.1 ||| y.1, x.2 &&& y.2)
  else if op = 14 then (x.1 &&& y.1, x.2 ||| y.2)
  else if op = 15 then ((allK x &&& allK y) &&& (2 ^ 64 - 1 - ((x.2 ^^^ y.2) &&& allK x &&& allK y)), (x.2 ^^^ y.2) &&& allK x &&& allK y)
  else if op = 8 ∨ op = 9 ∨ op = 10 then sumsK op W x y
  else if op = 16 ∨ op = 17 ∨ op = 18 then movedK op W x y
  else if op = 19 then (if x.2 &&& y.1 = 0 then (if x.1 &&& y.2 = 0 then (0, 0) else ofK 1 0) else ofK 1 0)
  else (0, 0)
theorem kz_eta (z : Nat × Nat) : (some ((KZ z).1, (KZ z).2) : Option (Int × Int)) = some (KZ z) := rfl
theorem table_eqK (k : Nat) {op : Int} (ho : isOpK op) {W : Nat} (hW1 : 1 ≤ W) (hW : W ≤ 64) {x y : Nat × Nat} (hx : OkK W x) (hy : OkK W y) : known_pair_table.f (k + 2) (x.1 : Int) (x.2 : Int) (W : Int) (y.1 : Int) (y.2 : Int) (W : Int) op = some (KZ (tableK op W x y)) := by
  have ox := ok_lt64 hW hx
  have oy := ok_lt64 hW hy
  have ax : allK x < 2 ^ 64 := Nat.or_lt_two_pow ox.1 ox.2
  have ay : allK y < 2 ^ 64 := Nat.or_lt_two_pow oy.1 oy.2
  have of1 : known_Of.f 1 0 = some (KZ (ofK 1 0)) := of_eqK 1 0 (by decide)
  unfold isOpK at ho
  unfold known_pair_table.f
  by_cases c5 : op = 5
  · rw [if_pos c5]; unfold tableK; rw [if_pos c5]; rfl
  rw [if_neg c5]
  by_cases c13 : op = 13
  · rw [if_pos c13, or_nat _ _ ox.1 oy.1, and_nat _ _ ox.2 oy.2]; unfold tableK; rw [if_neg c5, if_pos c13]; rfl
  rw [if_neg c13]
  by_cases c14 : op = 14
  · rw [if_pos c14, and_nat _ _ ox.1 oy.1, or_nat _ _ ox.2 oy.2]; unfold tableK; rw [if_neg c5, if_neg c13, if_pos c14]; rfl
  rw [if_neg c14]
  by_cases c15 : op = 15
  · rw [if_pos c15]
    have ea : ∀ (b : Nat × Nat) (w : Int), b.1 < 2 ^ 64 → b.2 < 2 ^ 64 → known_wide_all.f (b.1 : Int) (b.2 : Int) w = some (allK b : Int) := fun b w h1 h2 => by
      unfold known_wide_all.f allK
      rw [or_nat _ _ h1 h2]
    rw [ea x _ ox.1 ox.2, ea y _ oy.1 oy.2]
    simp only [Option.bind_some]
    have xl : (x.2 ^^^ y.2) < 2 ^ 64 := Nat.xor_lt_two_pow ox.2 oy.2
    have xa : (x.2 ^^^ y.2) &&& allK x < 2 ^ 64 := Nat.lt_of_le_of_lt Nat.and_le_left xl
    have xb : (x.2 ^^^ y.2) &&& allK x &&& allK y < 2 ^ 64 := Nat.lt_of_le_of_lt Nat.and_le_left xa
    have ab : allK x &&& allK y < 2 ^ 64 := Nat.lt_of_le_of_lt Nat.and_le_left ax
    rw [xor_nat _ _ ox.2 oy.2, and_nat _ _ xl ax, and_nat _ _ xa ay, and_nat _ _ ax ay, andNot_nat _ _ ab xb]
    unfold tableK
    rw [if_neg c5, if_neg c13, if_neg c14, if_pos c15]
    rfl
  rw [if_neg c15]
  have T0 : tableK op W x y = (if op = 8 ∨ op = 9 ∨ op = 10 then sumsK op W x y
    else if op = 16 ∨ op = 17 ∨ op = 18 then movedK op W x y
    else if op = 19 then (if x.2 &&& y.1 = 0 then (if x.1 &&& y.2 = 0 then (0, 0) else ofK 1 0) else ofK 1 0)
    else (0, 0)) := by unfold tableK; rw [if_neg c5, if_neg c13, if_neg c14, if_neg c15]
  have j1t : (op = 16 ∨ op = 17 ∨ op = 18) → known_pair_table.j1 (k + 1) op op true (x.1 : Int) (x.2 : Int) (W : Int) (y.1 : Int) (y.2 : Int) (W : Int) (x.1 : Int) (x.2 : Int) (y.1 : Int) (y.2 : Int) = some (KZ (tableK op W x y)) := by
    intro h
    simp only [known_pair_table.j1, if_true]
    rw [moved_eqK op hW1 hW hx hy, T0, if_neg (by omega), if_pos h]
    rfl
  have j1f : ¬ (op = 8 ∨ op = 9 ∨ op = 10) → ¬ (op = 16 ∨ op = 17 ∨ op = 18) → known_pair_table.j1 (k + 1) op op false (x.1 : Int) (x.2 : Int) (W : Int) (y.1 : Int) (y.2 : Int) (W : Int) (x.1 : Int) (x.2 : Int) (y.1 : Int) (y.2 : Int) = some (KZ (tableK op W x y)) := by
    intro h h'
    simp only [known_pair_table.j1, Bool.false_eq_true, if_false]
    rw [T0, if_neg h, if_neg h', and_nat _ _ ox.2 oy.1, and_nat _ _ ox.1 oy.2, of1]
    by_cases c19 : op = 19
    · rw [if_pos c19, if_pos c19]
      by_cases d : x.2 &&& y.1 = 0
      · rw [if_pos d, if_pos (by rw [d]; rfl)]
        by_cases e : x.1 &&& y.2 = 0
        · rw [if_pos e, if_pos (by rw [e]; rfl)]; rfl
        · rw [if_neg e, if_neg (by omega)]; rfl
      · rw [if_neg d, if_neg (by omega)]; rfl
    · rw [if_neg c19, if_neg c19]; rfl
  have j0t : (op = 8 ∨ op = 9 ∨ op = 10) → known_pair_table.j0 (k + 2) op op true (x.1 : Int) (x.2 : Int) (W : Int) (y.1 : Int) (y.2 : Int) (W : Int) (x.1 : Int) (x.2 : Int) (y.1 : Int) (y.2 : Int) = some (KZ (tableK op W x y)) := by
    intro h
    simp only [known_pair_table.j0, if_true]
    rw [sums_eqK op hW1 hW hx hy, T0, if_pos h]
    rfl
  have j0f : ¬ (op = 8 ∨ op = 9 ∨ op = 10) → known_pair_table.j0 (k + 2) op op false (x.1 : Int) (x.2 : Int) (W : Int) (y.1 : Int) (y.2 : Int) (W : Int) (x.1 : Int) (x.2 : Int) (y.1 : Int) (y.2 : Int) = some (KZ (tableK op W x y)) := by
    intro h
    simp only [known_pair_table.j0, Bool.false_eq_true, if_false]
    by_cases c16 : op = 16
    · rw [if_pos c16, show (op == 16) = true from beq_iff_eq.mpr c16]; exact j1t (by omega)
    · rw [if_neg c16]
      by_cases c17 : op = 17
      · rw [if_pos c17, show (op == 17) = true from beq_iff_eq.mpr c17]; exact j1t (by omega)
      · rw [if_neg c17]
        by_cases c18 : op = 18
        · rw [show (op == 18) = true from beq_iff_eq.mpr c18]; exact j1t (by omega)
        · rw [show (op == 18) = false from beq_eq_false_iff_ne.mpr c18]; exact j1f h (by omega)
  by_cases c8 : op = 8
  · rw [if_pos c8, show (op == 8) = true from beq_iff_eq.mpr c8]; exact j0t (by omega)
  · rw [if_neg c8]
    by_cases c9 : op = 9
    · rw [if_pos c9, show (op == 9) = true from beq_iff_eq.mpr c9]; exact j0t (by omega)
    · rw [if_neg c9]
      by_cases c10 : op = 10
      · rw [show (op == 10) = true from beq_iff_eq.mpr c10]; exact j0t (by omega)
      · rw [show (op == 10) = false from beq_eq_false_iff_ne.mpr c10]; exact j0f (by omega)
end Go.Proofs.YtidabafobpbniaaDoor.Pure
