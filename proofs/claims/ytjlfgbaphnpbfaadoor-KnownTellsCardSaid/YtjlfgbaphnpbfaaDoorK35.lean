/- Words: what the program's operations come to, of natural numbers; the document's are the same. -/
import Derived.Test.YtjlfgbaphnpbfaaDoorK34
import Derived.Laws.BitsLemmas
open Go Go.Proofs Go.RowKit
namespace Go.Proofs.YtjlfgbaphnpbfaaDoor.Sx.M5
set_option linter.unusedVariables false
set_option linter.unusedSimpArgs false
/-- A width, within its ends. -/
def cw (w : Int) : Nat := (max 1 (min w 64)).toNat
theorem cw_range (w : Int) : 1 ≤ cw w ∧ cw w ≤ 64 := by unfold cw; omega
theorem width_eq (w : Int) : width_s w = (cw w : Int) := by unfold width_s cw; omega
theorem rwid_eq (w : Int) : rwid_s w = (cw w : Int) := by
  unfold rwid_s cw
  by_cases h : w < 1
  · rw [decide_eq_true h]; show (1 : Int) = _; omega
  · rw [decide_eq_false h]
    by_cases h2 : w > 64
    · rw [decide_eq_true h2]; show (64 : Int) = _; omega
    · rw [decide_eq_false h2]; show w = _; omega
theorem cw_cw (w : Int) : cw (cw w : Int) = cw w := by have := cw_range w; unfold cw at *; omega
theorem cw_of {W : Nat} (h1 : 1 ≤ W) (h2 : W ≤ 64) : cw (W : Int) = W := by unfold cw; omega
theorem u64_nat (n : Nat) : IntKind.u64.wrap (n : Int) = ((n % 2 ^ 64 : Nat) : Int) := by rw [wrap_u64]; omega
theorem u64_small {n : Int} (h0 : 0 ≤ n) (h1 : n < 18446744073709551616) : IntKind.u64.wrap n = n := by rw [wrap_u64]; omega
theorem and_nat (a b : Nat) (ha : a < 2 ^ 64) (hb : b < 2 ^ 64) : Go.bits .and .u64 (a : Int) (b : Int) = ((a &&& b : Nat) : Int) := by
  have ha' : a % 2 ^ 64 = a := Nat.mod_eq_of_lt ha
  have hb' : b % 2 ^ 64 = b := Nat.mod_eq_of_lt hb
  have hx : a &&& b < 2 ^ 64 := Nat.and_lt_two_pow _ hb
  have e : IntKind.u64.bits = 64 := rfl
  simp only [Go.bits, e, BitVec.ofInt_natCast, BitVec.toNat_and, BitVec.toNat_ofNat, ha', hb']
  exact u64_small (Int.natCast_nonneg _) (by omega)
theorem or_nat (a b : Nat) (ha : a < 2 ^ 64) (hb : b < 2 ^ 64) : Go.bits .or .u64 (a : Int) (b : Int) = ((a ||| b : Nat) : Int) := by
  have ha' : a % 2 ^ 64 = a := Nat.mod_eq_of_lt ha
  have hb' : b % 2 ^ 64 = b := Nat.mod_eq_of_lt hb
  have hx : a ||| b < 2 ^ 64 := Nat.or_lt_two_pow ha hb
  have e : IntKind.u64.bits = 64 := rfl
  simp only [Go.bits, e, BitVec.ofInt_natCast, BitVec.toNat_or, BitVec.toNat_ofNat, ha', hb']
  exact u64_small (Int.natCast_nonneg _) (by omega)
theorem xor_nat (a b : Nat) (ha : a < 2 ^ 64) (hb : b < 2 ^ 64) : Go.bits .xor .u64 (a : Int) (b : Int) = ((a ^^^ b : Nat) : Int) := by
  have ha' : a % 2 ^ 64 = a := Nat.mod_eq_of_lt ha
  have hb' : b % 2 ^ 64 = b := Nat.mod_eq_of_lt hb
  have hx : a ^^^ b < 2 ^ 64 := Nat.xor_lt_two_pow ha hb
  have e : IntKind.u64.bits = 64 := rfl
  simp only [Go.bits, e, BitVec.ofInt_natCast, BitVec.toNat_xor, BitVec.toNat_ofNat, ha', hb']
  exact u64_small (Int.natCast_nonneg _) (by omega)
theorem pow_cast (n : Nat) : ((2 : Int) ^ n) = ((2 ^ n : Nat) : Int) := by simp
theorem shr_nat (a b : Nat) (hb : b ≤ 64) : ((a : Int)).fdiv (2 ^ min b 64) = ((a / 2 ^ b : Nat) : Int) := by
  rw [Nat.min_eq_left hb, pow_cast, Int.fdiv_eq_ediv_of_nonneg _ (Int.natCast_nonneg _)]
  rfl
theorem shl_nat (a b : Nat) (hb : b ≤ 64) : IntKind.u64.wrap ((a : Int) * 2 ^ min b 64) = ((a * 2 ^ b % 2 ^ 64 : Nat) : Int) := by
  rw [Nat.min_eq_left hb, pow_cast, ← Int.natCast_mul, u64_nat]
theorem pow_split (W : Nat) (h : W ≤ 64) : 2 ^ W * 2 ^ (64 - W) = 2 ^ 64 := by rw [← Nat.pow_add, Nat.add_sub_cancel' h]
theorem pow_le64 {W : Nat} (h : W ≤ 64) : 2 ^ W ≤ 2 ^ 64 := Nat.pow_le_pow_right (by decide) h
theorem mask_div (W : Nat) (h : W ≤ 64) : (2 ^ 64 - 1) / 2 ^ (64 - W) = 2 ^ W - 1 := by
  have hp := pow_split W h
  have h1 : 0 < 2 ^ W := Nat.two_pow_pos W
  have h2 : 0 < 2 ^ (64 - W) := Nat.two_pow_pos _
  apply Nat.div_eq_of_lt_le
  · rw [Nat.sub_mul, hp]; omega
  · rw [show 2 ^ W - 1 + 1 = 2 ^ W by omega, hp]; decide
theorem mask_eq (w : Int) : mask_s w = ((2 ^ cw w - 1 : Nat) : Int) := by
  have hr := cw_range w
  unfold mask_s
  rw [width_eq, show (64 - (cw w : Int)).toNat = 64 - cw w by omega]
  have := shr_nat (2 ^ 64 - 1) (64 - cw w) (by omega)
  rw [mask_div _ hr.2] at this
  exact this
theorem cut_eq (w : Int) (x : Nat) (hx : x < 2 ^ 64) : cut_s w (x : Int) = ((x % 2 ^ cw w : Nat) : Int) := by
  have hr := cw_range w
  have hp := pow_le64 hr.2
  have h1 : 0 < 2 ^ cw w := Nat.two_pow_pos _
  unfold cut_s
  rw [mask_eq, and_nat x _ hx (by omega), Nat.and_two_pow_sub_one_eq_mod]
/-- A word as a number with a sign. -/
def signN (W x : Nat) : Int := if 2 ^ (W - 1) ≤ x then (x : Int) - 2 ^ W else x
theorem half_split64 (W : Nat) (h : 1 ≤ W) (h' : W ≤ 64) : 2 ^ (W - 1) * 2 ^ (64 - W) = 2 ^ 63 := by
  rw [← Nat.pow_add, show W - 1 + (64 - W) = 63 by omega]
theorem sign_eq (w : Int) (x : Nat) (hx : x < 2 ^ cw w) : sign_s w (x : Int) = signN (cw w) x := by
  have hr := cw_range w
  have hp := pow_le64 hr.2
  unfold sign_s
  rw [width_eq, show (64 - (cw w : Int)).toNat = 64 - cw w by omega, shl_nat x _ (by omega)]
  generalize hW : cw w = W at *
  have hs := pow_split W hr.2
  have hh := half_split64 W hr.1 hr.2
  have hP : 0 < 2 ^ (64 - W) := Nat.two_pow_pos _
  have hlt : x * 2 ^ (64 - W) < 2 ^ 64 := by rw [← hs]; exact Nat.mul_lt_mul_of_pos_right hx hP
  rw [Nat.mod_eq_of_lt hlt, Nat.min_eq_left (show 64 - W ≤ 64 by omega), Int.fdiv_eq_ediv_of_nonneg _ (by rw [pow_cast]; exact Int.natCast_nonneg _), IntKind.wrap_i64]
  unfold signN
  by_cases c : 2 ^ (W - 1) ≤ x
  · rw [if_pos c]
    have h1 : 2 ^ 63 ≤ x * 2 ^ (64 - W) := by rw [← hh]; exact Nat.mul_le_mul_right _ c
    have e : ((x : Int) - 2 ^ W) * 2 ^ (64 - W) = ((x * 2 ^ (64 - W) : Nat) : Int) - ((2 ^ W * 2 ^ (64 - W) : Nat) : Int) := by
      rw [Int.sub_mul]; simp
    rw [hs] at e
    have h3 : ∀ z : Int, z = ((x : Int) - 2 ^ W) * 2 ^ (64 - W) → z / 2 ^ (64 - W) = (x : Int) - 2 ^ W := fun z hz => by
      rw [hz]; exact Int.mul_ediv_cancel _ (by rw [pow_cast]; omega)
    exact h3 _ (by rw [e]; omega)
  · rw [if_neg c]
    have h1 : x * 2 ^ (64 - W) < 2 ^ 63 := by rw [← hh]; exact Nat.mul_lt_mul_of_pos_right (by omega) hP
    have e : (x : Int) * 2 ^ (64 - W) = ((x * 2 ^ (64 - W) : Nat) : Int) := by simp
    have h3 : ∀ z : Int, z = (x : Int) * 2 ^ (64 - W) → z / 2 ^ (64 - W) = (x : Int) := fun z hz => by
      rw [hz]; exact Int.mul_ediv_cancel _ (by rw [pow_cast]; omega)
    exact h3 _ (by rw [e]; omega)
/-- What an operation of two words of a width answers. -/
def applyN (op : Int) (W x y : Nat) : Nat :=
  if op = 5 then 2 ^ W - 1 - x
  else if op = 9 then (x + (2 ^ W - y)) % 2 ^ W
  else if op = 8 then (x + y) % 2 ^ W
  else if op = 10 then x * y % 2 ^ W
  else if op = 11 then (if y = 0 then 2 ^ W - 1 else x / y)
  else if op = 12 then (if y = 0 then x else x % y)
  else if op = 13 then x &&& y
  else if op = 14 then x ||| y
  else if op = 15 then x ^^^ y
  else if op = 16 then (if W ≤ y then 0 else x * 2 ^ y % 2 ^ W)
  else if op = 17 then (if W ≤ y then 0 else x / 2 ^ y)
  else if op = 18 then sarN W x y
  else if op = 19 then (if x = y then 1 else 0)
  else if op = 21 then (if lessS W x y = true then 1 else 0)
  else if op = 20 then (if x < y then 1 else 0)
  else 0
theorem pow_dvd64 {W : Nat} (h : W ≤ 64) : 2 ^ W ∣ 2 ^ 64 := Nat.pow_dvd_pow 2 h
theorem mod_mod64 {W : Nat} (h : W ≤ 64) (x : Nat) : x % 2 ^ 64 % 2 ^ W = x % 2 ^ W := Nat.mod_mod_of_dvd x (pow_dvd64 h)
theorem not_nat (x n : Nat) (h : x < 2 ^ n) : (2 ^ n - 1) ^^^ x = 2 ^ n - 1 - x := by
  apply Nat.eq_of_testBit_eq
  intro i
  rw [Nat.testBit_xor, show 2 ^ n - 1 - x = 2 ^ n - (x + 1) by omega, Nat.testBit_two_pow_sub_succ h, Nat.testBit_two_pow_sub_one]
  by_cases hi : i < n
  · simp [hi]
  · have : x.testBit i = false := Nat.testBit_lt_two_pow (Nat.lt_of_lt_of_le h (Nat.pow_le_pow_right (by decide) (by omega)))
    simp [hi, this]
theorem all_split {W : Nat} (h : W ≤ 64) (x : Nat) (hx : x ≤ 2 ^ W) : 2 ^ 64 - x = (2 ^ W - x) + 2 ^ W * (2 ^ (64 - W) - 1) := by
  have hp := pow_split W h
  have h2 : 0 < 2 ^ (64 - W) := Nat.two_pow_pos _
  rw [Nat.mul_sub, hp, Nat.mul_one]
  have := pow_le64 h
  omega
theorem half_xor (v x : Nat) (h : x < 2 ^ v) : x ^^^ 2 ^ v = 2 ^ v + x := by
  apply Nat.eq_of_testBit_eq
  intro i
  rw [Nat.testBit_xor, Nat.testBit_two_pow]
  by_cases a : i < v
  · rw [Nat.testBit_two_pow_add_gt a]
    have : ¬ v = i := by omega
    simp [this]
  · by_cases b : i = v
    · subst b
      rw [Nat.testBit_two_pow_add_eq]
      simp
    · have h1 : x.testBit i = false := Nat.testBit_lt_two_pow (Nat.lt_of_lt_of_le h (Nat.pow_le_pow_right (by decide) (by omega)))
      have h2 : (2 ^ v + x).testBit i = false := Nat.testBit_lt_two_pow (Nat.lt_of_lt_of_le (show 2 ^ v + x < 2 ^ (v + 1) by rw [Nat.pow_succ]; omega) (Nat.pow_le_pow_right (by decide) (by omega)))
      have : ¬ v = i := by omega
      simp [h1, h2, this]
theorem top_xor {W x : Nat} (h1 : 1 ≤ W) (h : x < 2 ^ W) : x ^^^ 2 ^ (W - 1) = if 2 ^ (W - 1) ≤ x then x - 2 ^ (W - 1) else 2 ^ (W - 1) + x := by
  have hs := half_split W h1
  split
  · rename_i c
    have e := half_xor (W - 1) (x - 2 ^ (W - 1)) (by omega)
    rw [show 2 ^ (W - 1) + (x - 2 ^ (W - 1)) = x by omega] at e
    rw [← e, Nat.xor_assoc, Nat.xor_self, Nat.xor_zero, e]
  · exact half_xor _ _ (by omega)
theorem less_xor {W x y : Nat} (h1 : 1 ≤ W) (hx : x < 2 ^ W) (hy : y < 2 ^ W) : decide (x ^^^ 2 ^ (W - 1) < y ^^^ 2 ^ (W - 1)) = lessS W x y := by
  have hs := half_split W h1
  rw [top_xor h1 hx, top_xor h1 hy]
  unfold lessS
  by_cases a : 2 ^ (W - 1) ≤ x <;> by_cases b : 2 ^ (W - 1) ≤ y
  · simp only [if_pos a, if_pos b]; congr 1; exact propext ⟨fun h => by omega, fun h => by omega⟩
  · simp only [if_pos a, if_neg b]; exact decide_eq_true (by omega)
  · simp only [if_neg a, if_pos b]; exact decide_eq_false (by omega)
  · simp only [if_neg a, if_neg b]; congr 1; exact propext ⟨fun h => by omega, fun h => by omega⟩
theorem neg_div (m b : Nat) (hb : 0 < b) : (-(m : Int) - 1) / (b : Int) = -((m / b : Nat) : Int) - 1 := by
  have h := Int.negSucc_ediv m (b := (b : Int)) (by omega)
  have e : (m : Int).ediv (b : Int) = ((m / b : Nat) : Int) := rfl
  rw [show (-(m : Int) - 1) = Int.negSucc m by omega, h, e]
  generalize m / b = q
  omega
theorem ite_lt {c : Prop} [Decidable c] {a b n : Nat} (h1 : c → a < n) (h2 : ¬ c → b < n) : (if c then a else b) < n := by
  split
  · exact h1 (by assumption)
  · exact h2 (by assumption)
theorem apply_lt (op : Int) {W x y : Nat} (h1 : 1 ≤ W) (hx : x < 2 ^ W) (hy : y < 2 ^ W) : applyN op W x y < 2 ^ W := by
  have hp : 0 < 2 ^ W := Nat.two_pow_pos W
  have h2 : 2 ≤ 2 ^ W := by have := half_split W h1; have : 0 < 2 ^ (W - 1) := Nat.two_pow_pos _; omega
  have hq : ∀ a b : Nat, a < 2 ^ W → a / b < 2 ^ W := fun a b h => Nat.lt_of_le_of_lt (Nat.div_le_self _ _) h
  have hs : sarN W x y < 2 ^ W := by
    unfold sarN
    refine ite_lt (fun _ => ?_) (fun _ => ite_lt (fun _ => hp) (fun _ => hq _ _ hx))
    exact Nat.lt_of_le_of_lt (Nat.sub_le _ _) (by omega)
  have h1' : ∀ c : Prop, ∀ _ : Decidable c, (if c then 1 else 0) < 2 ^ W := fun c _ => ite_lt (fun _ => by omega) (fun _ => hp)
  unfold applyN
  refine ite_lt (fun _ => by omega) (fun _ => ite_lt (fun _ => Nat.mod_lt _ hp) (fun _ => ite_lt (fun _ => Nat.mod_lt _ hp) (fun _ => ite_lt (fun _ => Nat.mod_lt _ hp) (fun _ => ite_lt (fun _ => ite_lt (fun _ => by omega) (fun _ => hq _ _ hx)) (fun _ => ite_lt (fun _ => ite_lt (fun _ => hx) (fun _ => Nat.lt_of_le_of_lt (Nat.mod_le _ _) hx)) (fun _ => ?_))))))
  refine ite_lt (fun _ => Nat.and_lt_two_pow _ hy) (fun _ => ite_lt (fun _ => Nat.or_lt_two_pow hx hy) (fun _ => ite_lt (fun _ => Nat.xor_lt_two_pow hx hy) (fun _ => ite_lt (fun _ => ite_lt (fun _ => hp) (fun _ => Nat.mod_lt _ hp)) (fun _ => ite_lt (fun _ => ite_lt (fun _ => hp) (fun _ => hq _ _ hx)) (fun _ => ite_lt (fun _ => hs) (fun _ => ?_))))))
  exact ite_lt (fun _ => h1' _ _) (fun _ => ite_lt (fun _ => h1' _ _) (fun _ => ite_lt (fun _ => h1' _ _) (fun _ => hp)))


/-- Which operations there are. -/
theorem op_cases (op : Int) : op = 5 ∨ op = 8 ∨ op = 9 ∨ op = 10 ∨ op = 11 ∨ op = 12 ∨ op = 13 ∨ op = 14 ∨ op = 15 ∨ op = 16 ∨ op = 17 ∨ op = 18 ∨ op = 19 ∨ op = 20 ∨ op = 21 ∨ (op ≠ 5 ∧ op ≠ 8 ∧ op ≠ 9 ∧ op ≠ 10 ∧ op ≠ 11 ∧ op ≠ 12 ∧ op ≠ 13 ∧ op ≠ 14 ∧ op ≠ 15 ∧ op ≠ 16 ∧ op ≠ 17 ∧ op ≠ 18 ∧ op ≠ 19 ∧ op ≠ 20 ∧ op ≠ 21) := by omega
theorem bool_if (c : Prop) [Decidable c] : (decide c).toNat = if c then 1 else 0 := by by_cases h : c <;> simp [h]
theorem bool_if' (b : Bool) : b.toNat = if b = true then 1 else 0 := by cases b <;> rfl
set_option maxRecDepth 100000 in
/-- What the document's operation answers. -/
theorem rapp_eq (op w : Int) (x y : Nat) (hx : x < 2 ^ 64) (hy : y < 2 ^ 64) : rapp_s op w (x : Int) (y : Int) = ((applyN op (cw w) (x % 2 ^ cw w) (y % 2 ^ cw w) : Nat) : Int) := by
  obtain ⟨h1, h2⟩ := cw_range w
  have hw := rwid_eq w
  have hp := pow_le64 h2
  have hpos := Nat.two_pow_pos (cw w)
  have hX := rof_is (x0 := (x : Int)) hw h2 hx rfl
  have hY := rof_is (x0 := (y : Int)) hw h2 hy rfl
  have lX := Nat.mod_lt x hpos
  have lY := Nat.mod_lt y hpos
  have hlt := apply_lt op h1 lX lY
  unfold rapp_s
  generalize rof_s (rwid_s w) (x : Int) = f at hX ⊢
  generalize rof_s (rwid_s w) (y : Int) = g at hY ⊢
  generalize x % 2 ^ cw w = X at *
  generalize y % 2 ^ cw w = Y at *
  have fin : ∀ (k : Nat → Bool), Is k (applyN op (cw w) X Y) → rnum_s k = ((applyN op (cw w) X Y : Nat) : Int) := fun k hk => rnum_is hk (by omega)
  have hdv := rdiv_is hw h1 h2 hX hY lX lY
  rcases op_cases op with rfl | rfl | rfl | rfl | rfl | rfl | rfl | rfl | rfl | rfl | rfl | rfl | rfl | rfl | rfl | ho
  · simp only [Int.reduceBEq, cond_true, cond_false]
    have := rnot_is hw h2 hX
    rw [notN_eq lX] at this
    exact fin _ this
  · simp only [Int.reduceBEq, cond_true, cond_false]
    have := radd_is hw h2 hX hY false
    rw [addN_eq lX lY] at this
    exact fin _ this
  · simp only [Int.reduceBEq, cond_true, cond_false]
    have := radd_is hw h2 hX (rnot_is hw h2 hY) true
    rw [ref_sub lX lY] at this
    exact fin _ this
  · simp only [Int.reduceBEq, cond_true, cond_false]
    have := rmul_is hw h1 h2 hX hY lX
    rw [Nat.mod_eq_of_lt lY] at this
    exact fin _ this
  · simp only [Int.reduceBEq, cond_true, cond_false]
    exact fin _ hdv.1
  · simp only [Int.reduceBEq, cond_true, cond_false]
    exact fin _ hdv.2
  · simp only [Int.reduceBEq, cond_true, cond_false]
    exact fin _ (rbit_is hw h2 hX hY hlt (.inl ⟨rfl, rfl⟩))
  · simp only [Int.reduceBEq, cond_true, cond_false]
    exact fin _ (rbit_is hw h2 hX hY hlt (.inr (.inl ⟨rfl, rfl⟩)))
  · simp only [Int.reduceBEq, cond_true, cond_false]
    exact fin _ (rbit_is hw h2 hX hY hlt (.inr (.inr ⟨rfl, rfl⟩)))
  · simp only [Int.reduceBEq, cond_true, cond_false]
    have := rmov_is (op := 16) hw h1 h2 hX hY (by omega)
    rw [if_pos rfl, upTimes_eq lX, ref_shl lX] at this
    exact fin _ this
  · simp only [Int.reduceBEq, cond_true, cond_false]
    have := rmov_is (op := 17) hw h1 h2 hX hY (by omega)
    rw [if_neg (by decide), show ((17 : Int) == 18) = false from rfl, Bool.false_and, dnTo_false h1 lX, ref_shr lX] at this
    exact fin _ this
  · simp only [Int.reduceBEq, cond_true, cond_false]
    have := rmov_is (op := 18) hw h1 h2 hX hY (by omega)
    rw [if_neg (by decide), show ((18 : Int) == 18) = true from rfl, Bool.true_and] at this
    refine fin _ (this.cong (fun j _ => ?_))
    show (sarN (cw w) X Y).testBit j = _
    rw [sar_bit h1 lX, dnTo_bit h1 lX]
  · simp only [Int.reduceBEq, cond_true, cond_false]
    show rnum_s (rtru_s (eqA f g 64 0)) = _
    rw [eqA_is hX hY (by omega) (by omega)]
    have := rtru_is (decide (X = Y))
    rw [bool_if] at this
    exact fin _ this
  · simp only [Int.reduceBEq, cond_true, cond_false]
    show rnum_s (rtru_s (rless_s (rwid_s w) f g)) = _
    rw [rless_is hw h2 hX hY lX lY]
    have := rtru_is (decide (X < Y))
    rw [bool_if] at this
    exact fin _ this
  · simp only [Int.reduceBEq, cond_true, cond_false]
    have hl := less_ref h1 lX lY
    have key : ∀ b : Bool, b = lessS (cw w) X Y → rnum_s (rtru_s b) = ((applyN 21 (cw w) X Y : Nat) : Int) := fun b hb => by
      have := rtru_is b
      rw [bool_if', hb] at this
      exact fin _ (hb ▸ this)
    show (bif !((f ((rwid_s w - 1).toNat)) == (g ((rwid_s w - 1).toNat))) then (rnum_s (rtru_s (f ((rwid_s w - 1).toNat)))) else (rnum_s (rtru_s (rless_s (rwid_s w) f g)))) = _
    rw [show (rwid_s w - 1).toNat = cw w - 1 by omega, hX _ (by omega), hY _ (by omega), rless_is hw h2 hX hY lX lY]
    by_cases c : X.testBit (cw w - 1) = Y.testBit (cw w - 1)
    · rw [if_pos c] at hl
      rw [c, beq_self_eq_true]
      exact key _ hl.symm
    · rw [if_neg c] at hl
      rw [beq_eq_false_iff_ne.2 c]
      exact key _ hl.symm
  · obtain ⟨o5, o8, o9, o10, o11, o12, o13, o14, o15, o16, o17, o18, o19, o20, o21⟩ := ho
    have b : ∀ k : Int, op ≠ k → (op == k) = false := fun k h => by simpa using h
    simp only [b _ o5, b _ o8, b _ o9, b _ o10, b _ o11, b _ o12, b _ o13, b _ o14, b _ o15, b _ o16, b _ o17, b _ o18, b _ o19, b _ o20, b _ o21, cond_false]
    unfold applyN
    simp only [if_neg o5, if_neg o8, if_neg o9, if_neg o10, if_neg o11, if_neg o12, if_neg o13, if_neg o14, if_neg o15, if_neg o16, if_neg o17, if_neg o18, if_neg o19, if_neg o20, if_neg o21]
    rfl
end Go.Proofs.YtjlfgbaphnpbfaaDoor.Sx.M5
