/- Words, the plain law: what the program's functions of layer 1 come to, of natural numbers. -/
import Derived.Test.YtidabafobpbniaaDoorGw
namespace Go.Proofs.YtidabafobpbniaaDoor.Pure
open Go.RowKit Go.Proofs.YtidabafobpbniaaDoor.P Go.Proofs.YtidabafobpbniaaDoorW.PrintWords Go.Proofs.YtidabafobpbniaaDoorW.PrintLast Go.Proofs.YtidabafobpbniaaDoorW.PrintMore
set_option linter.unusedVariables false
set_option linter.unusedSimpArgs false

/-- A width, within its ends. -/
def cw (w : Int) : Nat := (max 1 (min w 64)).toNat
theorem cw_range (w : Int) : 1 ≤ cw w ∧ cw w ≤ 64 := by unfold cw; omega
theorem width_eq (w : Int) : word_width.f w = some (cw w : Int) := by
  unfold word_width.f cw mx mn
  congr 1
  omega
theorem u64_wrap (n : Int) : IntKind.u64.wrap n = n % 18446744073709551616 := by simp [IntKind.wrap, IntKind.bits, IntKind.signed]
theorem u64_nat (n : Nat) : IntKind.u64.wrap (n : Int) = ((n % 2 ^ 64 : Nat) : Int) := by rw [u64_wrap]; omega
theorem u64_small {n : Int} (h0 : 0 ≤ n) (h1 : n < 18446744073709551616) : IntKind.u64.wrap n = n := by rw [u64_wrap]; omega
theorem and_nat (a b : Nat) (ha : a < 2 ^ 64) (hb : b < 2 ^ 64) : Go.bits .and .u64 (a : Int) (b : Int) = ((a &&& b : Nat) : Int) :=
  (bits_nat .u64 64 (by decide) (fun n h0 h1 => u64_small h0 (by omega)) a b ha hb).1
theorem or_nat (a b : Nat) (ha : a < 2 ^ 64) (hb : b < 2 ^ 64) : Go.bits .or .u64 (a : Int) (b : Int) = ((a ||| b : Nat) : Int) :=
  (bits_nat .u64 64 (by decide) (fun n h0 h1 => u64_small h0 (by omega)) a b ha hb).2
theorem xor_nat (a b : Nat) (ha : a < 2 ^ 64) (hb : b < 2 ^ 64) : Go.bits .xor .u64 (a : Int) (b : Int) = ((a ^^^ b : Nat) : Int) := by
  have ha' : a % 2 ^ 64 = a := Nat.mod_eq_of_lt ha
  have hb' : b % 2 ^ 64 = b := Nat.mod_eq_of_lt hb
  have hx : a ^^^ b < 2 ^ 64 := Nat.xor_lt_two_pow ha hb
  have e : IntKind.u64.bits = 64 := rfl
  simp only [Go.bits, e, BitVec.ofInt_natCast, BitVec.toNat_xor, BitVec.toNat_ofNat, ha', hb']
  exact u64_small (Int.natCast_nonneg _) (by omega)
theorem andNot_nat (a b : Nat) (ha : a < 2 ^ 64) (hb : b < 2 ^ 64) : Go.bits .andNot .u64 (a : Int) (b : Int) = ((a &&& (2 ^ 64 - 1 - b) : Nat) : Int) := by
  have ha' : a % 2 ^ 64 = a := Nat.mod_eq_of_lt ha
  have hb' : b % 2 ^ 64 = b := Nat.mod_eq_of_lt hb
  have hx : a &&& (2 ^ 64 - 1 - b) < 2 ^ 64 := Nat.and_lt_two_pow _ (by omega)
  have e : IntKind.u64.bits = 64 := rfl
  simp only [Go.bits, e, BitVec.ofInt_natCast, BitVec.toNat_and, BitVec.toNat_not, BitVec.toNat_ofNat, ha', hb']
  exact u64_small (Int.natCast_nonneg _) (by omega)
theorem shr_nat (a b : Nat) (hb : b ≤ 64) : shr .u64 (a : Int) (b : Int) = ((a / 2 ^ b : Nat) : Int) := by
  unfold shr
  rw [Int.toNat_natCast, Nat.min_eq_left (show b ≤ IntKind.u64.bits from hb)]
  simp
theorem shl_nat (a b : Nat) (hb : b ≤ 64) : shl .u64 (a : Int) (b : Int) = ((a * 2 ^ b % 2 ^ 64 : Nat) : Int) := by
  unfold shl
  rw [Int.toNat_natCast, Nat.min_eq_left (show b ≤ IntKind.u64.bits from hb), ← u64_nat]
  simp
theorem pow_split (W : Nat) (h : W ≤ 64) : 2 ^ W * 2 ^ (64 - W) = 2 ^ 64 := by rw [← Nat.pow_add, Nat.add_sub_cancel' h]
theorem pow_le64 {W : Nat} (h : W ≤ 64) : 2 ^ W ≤ 2 ^ 64 := Nat.pow_le_pow_right (by decide) h
theorem mask_div (W : Nat) (h : W ≤ 64) : (2 ^ 64 - 1) / 2 ^ (64 - W) = 2 ^ W - 1 := by
  have hp := pow_split W h
  have h1 : 0 < 2 ^ W := Nat.two_pow_pos W
  have h2 : 0 < 2 ^ (64 - W) := Nat.two_pow_pos _
  apply Nat.div_eq_of_lt_le
  · rw [Nat.sub_mul, hp]; omega
  · rw [show 2 ^ W - 1 + 1 = 2 ^ W by omega, hp]; decide
theorem mask_eq (w : Int) : word_Mask.f w = some ((2 ^ cw w - 1 : Nat) : Int) := by
  have hr := cw_range w
  unfold word_Mask.f
  rw [width_eq]
  simp only [Option.bind_some]
  have e : wrap64 (64 - (cw w : Int)) = ((64 - cw w : Nat) : Int) := by unfold wrap64; omega
  rw [e, if_pos (Int.natCast_nonneg _)]
  have := shr_nat (2 ^ 64 - 1) (64 - cw w) (by omega)
  rw [mask_div _ hr.2] at this
  exact congrArg some this
theorem cut_eq (w : Int) (x : Nat) (hx : x < 2 ^ 64) : word_Cut.f w (x : Int) = some ((x % 2 ^ cw w : Nat) : Int) := by
  have hr := cw_range w
  have hp := pow_le64 hr.2
  have h1 : 0 < 2 ^ cw w := Nat.two_pow_pos _
  unfold word_Cut.f
  rw [mask_eq]
  simp only [Option.bind_some]
  rw [and_nat x _ hx (by omega), Nat.and_two_pow_sub_one_eq_mod]
/-- A word as a number with a sign. -/
def signN (W x : Nat) : Int := if 2 ^ (W - 1) ≤ x then (x : Int) - 2 ^ W else x
theorem half_split (W : Nat) (h : 1 ≤ W) : 2 ^ W = 2 * 2 ^ (W - 1) := by
  obtain ⟨v, rfl⟩ : ∃ v, W = v + 1 := ⟨W - 1, by omega⟩
  rw [Nat.pow_succ, Nat.add_sub_cancel]; omega
theorem half_split64 (W : Nat) (h : 1 ≤ W) (h' : W ≤ 64) : 2 ^ (W - 1) * 2 ^ (64 - W) = 2 ^ 63 := by
  rw [← Nat.pow_add, show W - 1 + (64 - W) = 63 by omega]
theorem sign_eq (w : Int) (x : Nat) (hx : x < 2 ^ cw w) : word_Sign.f w (x : Int) = some (signN (cw w) x) := by
  have hr := cw_range w
  have hp := pow_le64 hr.2
  unfold word_Sign.f
  rw [width_eq]
  simp only [Option.bind_some]
  have e : wrap64 (64 - (cw w : Int)) = ((64 - cw w : Nat) : Int) := by unfold wrap64; omega
  rw [e, if_pos (Int.natCast_nonneg _), shl_nat x _ (by omega)]
  congr 1
  generalize hW : cw w = W at *
  have hs := pow_split W hr.2
  have hh := half_split64 W hr.1 hr.2
  have hP : 0 < 2 ^ (64 - W) := Nat.two_pow_pos _
  have hlt : x * 2 ^ (64 - W) < 2 ^ 64 := by rw [← hs]; exact Nat.mul_lt_mul_of_pos_right hx hP
  rw [Nat.mod_eq_of_lt hlt]
  unfold shr signN
  rw [Int.toNat_natCast, Nat.min_eq_left (show 64 - W ≤ IntKind.i64.bits by show 64 - W ≤ 64; omega)]
  by_cases c : 2 ^ (W - 1) ≤ x
  · rw [if_pos c]
    have h1 : 2 ^ 63 ≤ x * 2 ^ (64 - W) := by rw [← hh]; exact Nat.mul_le_mul_right _ c
    have e2 : wrap64 ((x * 2 ^ (64 - W) : Nat) : Int) = ((x : Int) - 2 ^ W) * 2 ^ (64 - W) := by
      have : ((x : Int) - 2 ^ W) * 2 ^ (64 - W) = ((x * 2 ^ (64 - W) : Nat) : Int) - ((2 ^ W * 2 ^ (64 - W) : Nat) : Int) := by
        rw [Int.sub_mul]; simp
      rw [this, hs]
      unfold wrap64
      omega
    rw [e2]
    exact Int.mul_ediv_cancel _ (by have : (0 : Int) < 2 ^ (64 - W) := by exact_mod_cast hP
                                    omega)
  · rw [if_neg c]
    have h1 : x * 2 ^ (64 - W) < 2 ^ 63 := by rw [← hh]; exact Nat.mul_lt_mul_of_pos_right (by omega) hP
    have e2 : wrap64 ((x * 2 ^ (64 - W) : Nat) : Int) = (x : Int) * 2 ^ (64 - W) := by
      have : (x : Int) * 2 ^ (64 - W) = ((x * 2 ^ (64 - W) : Nat) : Int) := by simp
      rw [this]
      unfold wrap64
      omega
    rw [e2]
    exact Int.mul_ediv_cancel _ (by have : (0 : Int) < 2 ^ (64 - W) := by exact_mod_cast hP
                                    omega)
theorem flag_eq (b : Bool) : word_flag.f b = some (if b = true then 1 else 0) := by
  unfold word_flag.f
  split <;> rfl

/-- Less, of words with a sign. -/
def lessS (W x y : Nat) : Bool := if 2 ^ (W - 1) ≤ x then (if 2 ^ (W - 1) ≤ y then decide (x < y) else true) else (if 2 ^ (W - 1) ≤ y then false else decide (x < y))
def sarN (W x y : Nat) : Nat := if 2 ^ (W - 1) ≤ x then 2 ^ W - 1 - (if W ≤ y then 0 else (2 ^ W - 1 - x) / 2 ^ y) else (if W ≤ y then 0 else x / 2 ^ y)
/-- What an operation of two words of a width answers. -/
def applyN (op : Int) (W x y : Nat) : Nat :=
  if op = 5 then 2 ^ W - 1 - x
  else if op = 9 then (x + (2 ^ W - y)) % 2 ^ W
  else if op = 8 then (x + y) % 2 ^ W
  else if op = 10 then x * y % 2 ^ W
  else if op = 11 then (if y = 0 then 2 ^ W - 1 else x / y)
  else if op = 12 then (if y = 0 then x else x % y)
  else if op = 13 then x &&& y
  else if op = 14 then x ||| y
  else if op = 15 then x ^^^ y
  else if op = 16 then (if W ≤ y then 0 else x * 2 ^ y % 2 ^ W)
  else if op = 17 then (if W ≤ y then 0 else x / 2 ^ y)
  else if op = 18 then sarN W x y
  else if op = 19 then (if x = y then 1 else 0)
  else if op = 21 then (if lessS W x y = true then 1 else 0)
  else if op = 20 then (if x < y then 1 else 0)
  else 0

end Go.Proofs.YtidabafobpbniaaDoor.Pure
