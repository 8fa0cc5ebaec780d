/- The document's words: what its functions come to, of natural numbers. -/
import Derived.Test.YtjlfgbaphnpbfaaDoorK2
open Go Go.Proofs Go.RowKit
namespace Go.Proofs.YtjlfgbaphnpbfaaDoor.Sx.M5
set_option linter.unusedVariables false
set_option linter.unusedSimpArgs false
theorem half_bit (x j : Nat) : x / 2 ^ j = x / 2 ^ (j + 1) * 2 + (if x.testBit j = true then 1 else 0) := by
  have e : x / 2 ^ (j + 1) = x / 2 ^ j / 2 := by rw [Nat.div_div_eq_div_mul, Nat.pow_succ]
  have t := Nat.testBit_eq_decide_div_mod_eq (x := x) (i := j)
  rw [e, t]
  by_cases c : x / 2 ^ j % 2 = 1
  · rw [decide_eq_true c, if_pos rfl]; omega
  · rw [decide_eq_false c, if_neg (by decide)]; omega
def notN (k x : Nat) : Nat := 2 ^ k - 1 - x % 2 ^ k
theorem notN_bit (k x i : Nat) : (notN k x).testBit i = (decide (i < k) && !x.testBit i) := by
  have l : x % 2 ^ k < 2 ^ k := Nat.mod_lt _ (Nat.pow_pos (by decide))
  unfold notN
  rw [show 2 ^ k - 1 - x % 2 ^ k = 2 ^ k - (x % 2 ^ k + 1) by omega, Nat.testBit_two_pow_sub_succ l, Nat.testBit_mod_two_pow]
  by_cases c : i < k
  · rw [decide_eq_true c]; rfl
  · rw [decide_eq_false c]; rfl
theorem one_bit (b : Bool) (j : Nat) : b.toNat.testBit j = if j = 0 then b else (0 : Nat).testBit j := by
  rcases j with _ | j
  · cases b <;> rfl
  · cases b
    · simp
    · simp [Nat.testBit_succ]
theorem of_bit (x k j : Nat) : (x % 2 ^ k).testBit j = (decide (j < k) && x.testBit j) := Nat.testBit_mod_two_pow x k j
theorem of_step {W k x : Nat} (b : Bool) (hb : b = (decide (k < W) && x.testBit k)) (j : Nat) (hj : j < 64) : (x % 2 ^ min (k + 1) W).testBit j = if j = k then b else (x % 2 ^ min k W).testBit j := by
  rw [of_bit, of_bit]
  by_cases d : j = k
  · rw [if_pos d, d, hb]
    congr 2
    exact propext ⟨fun h => by omega, fun h => by omega⟩
  · rw [if_neg d]
    congr 2
    exact propext ⟨fun h => by omega, fun h => by omega⟩
theorem mulb (x s j : Nat) : (x * 2 ^ s).testBit j = (decide (s ≤ j) && x.testBit (j - s)) := by rw [Nat.testBit_mul_two_pow]
theorem divb (x s j : Nat) : (x / 2 ^ s).testBit j = x.testBit (j + s) := by rw [Nat.testBit_div_two_pow]
theorem dbl_bit (x j : Nat) : (x * 2).testBit j = (decide (1 ≤ j) && x.testBit (j - 1)) := mulb x 1 j
def upTo (W x k : Nat) : Nat := x * 2 % 2 ^ W / 2 ^ (k + 1) * 2 ^ (k + 1)
theorem upTo_bit (W x k j : Nat) : (upTo W x k).testBit j = (decide (k < j) && (decide (j < W) && (decide (1 ≤ j) && x.testBit (j - 1)))) := by
  unfold upTo
  rw [mulb, divb]
  by_cases c : k < j
  · rw [decide_eq_true (show k + 1 ≤ j by omega), decide_eq_true c, show j - (k + 1) + (k + 1) = j by omega, of_bit, dbl_bit]
  · rw [decide_eq_false (show ¬ k + 1 ≤ j by omega), decide_eq_false c]; rfl
def upN (W x : Nat) (b : Bool) : Nat := (x * 2 + b.toNat) % 2 ^ W
theorem upN_bit (W x : Nat) (b : Bool) (j : Nat) : (upN W x b).testBit j = (decide (j < W) && (if j = 0 then b else x.testBit (j - 1))) := by
  unfold upN
  rw [of_bit]
  congr 1
  rcases j with _ | j
  · rw [if_pos rfl, Nat.testBit_zero]
    cases b <;> simp [Nat.add_mod]
  · rw [if_neg (by omega), Nat.testBit_succ, show (x * 2 + b.toNat) / 2 = x by have := Bool.toNat_lt b; omega]
    rfl
def downN' (W x : Nat) (b : Bool) : Nat := x / 2 % 2 ^ (W - 1) ||| b.toNat * 2 ^ (W - 1)
theorem downN'_bit (W x : Nat) (b : Bool) (j : Nat) : (downN' W x b).testBit j = if j = W - 1 then b else (x / 2 % 2 ^ (W - 1)).testBit j := by
  unfold downN'
  rw [Nat.testBit_or, of_bit, mulb]
  by_cases c : j = W - 1
  · rw [if_pos c, decide_eq_false (by omega), decide_eq_true (by omega), Bool.false_and, Bool.false_or, Bool.true_and, c, Nat.sub_self]
    cases b <;> rfl
  · rw [if_neg c]
    have z : ∀ m, b.toNat.testBit (m + 1) = false := fun m => by rw [Nat.testBit_succ]; cases b <;> simp
    by_cases d : W - 1 ≤ j
    · obtain ⟨m, hm⟩ : ∃ m, j - (W - 1) = m + 1 := ⟨j - (W - 1) - 1, by omega⟩
      rw [hm, z, Bool.and_false, Bool.or_false]
    · rw [decide_eq_false d, Bool.false_and, Bool.or_false]
def sumTo (k x y : Nat) (c : Bool) : Nat := x % 2 ^ k + y % 2 ^ k + c.toNat
theorem mod_bit (x k : Nat) : x % 2 ^ (k + 1) = x % 2 ^ k + (x.testBit k).toNat * 2 ^ k := by
  have e : x % 2 ^ (k + 1) = x % 2 ^ k + 2 ^ k * (x / 2 ^ k % 2) := by rw [Nat.pow_succ, Nat.mod_mul]
  rw [e, Nat.testBit_eq_decide_div_mod_eq]
  rcases Nat.mod_two_eq_zero_or_one (x / 2 ^ k) with h | h <;> rw [h] <;> simp
theorem sum_step (k x y : Nat) (c a b d : Bool) (ha : x.testBit k = a) (hb : y.testBit k = b) (hd : decide (2 ^ k ≤ sumTo k x y c) = d) (m : Nat) (hm : m = a.toNat + b.toNat + d.toNat) :
    decide (2 ^ (k + 1) ≤ sumTo (k + 1) x y c) = decide (1 < m) ∧ ∀ j, (sumTo (k + 1) x y c % 2 ^ (k + 1)).testBit j = if j = k then decide (m % 2 = 1) else (sumTo k x y c % 2 ^ k).testBit j := by
  have pk : 0 < 2 ^ k := Nat.pow_pos (by decide)
  have e1 : sumTo (k + 1) x y c = sumTo k x y c + (a.toNat + b.toNat) * 2 ^ k := by
    unfold sumTo
    rw [mod_bit x, mod_bit y, ha, hb, Nat.add_mul]
    omega
  have lx := Nat.mod_lt x pk
  have ly := Nat.mod_lt y pk
  have lc := Bool.toNat_lt c
  have e2 : sumTo k x y c = sumTo k x y c % 2 ^ k + d.toNat * 2 ^ k := by
    have s : sumTo k x y c < 2 * 2 ^ k := by unfold sumTo; omega
    rw [← hd]
    by_cases q : 2 ^ k ≤ sumTo k x y c
    · rw [decide_eq_true q, Nat.mod_eq_sub_mod q, Nat.mod_eq_of_lt (by omega)]
      show sumTo k x y c = sumTo k x y c - 2 ^ k + 1 * 2 ^ k
      omega
    · rw [decide_eq_false q, Nat.mod_eq_of_lt (by omega)]
      show sumTo k x y c = sumTo k x y c + 0 * 2 ^ k
      omega
  have lo := Nat.mod_lt (sumTo k x y c) pk
  generalize sumTo k x y c % 2 ^ k = u at *
  have e3 : sumTo (k + 1) x y c = u + m * 2 ^ k := by
    rw [e1, e2, hm]
    simp only [Nat.add_mul]
    omega
  have hm3 : m ≤ 3 := by rw [hm]; have := Bool.toNat_lt a; have := Bool.toNat_lt b; have := Bool.toNat_lt d; omega
  have p2 : 2 ^ (k + 1) = 2 * 2 ^ k := by rw [Nat.pow_succ]; omega
  have hmul : (m / 2) * 2 ^ (k + 1) + (m % 2) * 2 ^ k = m * 2 ^ k := by
    rw [p2, ← Nat.mul_assoc, ← Nat.add_mul]
    congr 1
    omega
  have e4 : sumTo (k + 1) x y c % 2 ^ (k + 1) = u + (m % 2) * 2 ^ k := by
    have l2 : u + (m % 2) * 2 ^ k < 2 ^ (k + 1) := by
      rcases Nat.mod_two_eq_zero_or_one m with h | h <;> rw [h] <;> omega
    rw [e3, ← hmul, show u + (m / 2 * 2 ^ (k + 1) + m % 2 * 2 ^ k) = (u + m % 2 * 2 ^ k) + 2 ^ (k + 1) * (m / 2) by rw [Nat.mul_comm (m / 2)]; omega, Nat.add_mul_mod_self_left, Nat.mod_eq_of_lt l2]
  constructor
  · apply Bool.eq_iff_iff.2
    rw [decide_eq_true_eq, decide_eq_true_eq, e3, p2]
    constructor
    · intro h
      apply Classical.byContradiction
      intro hn
      have : m * 2 ^ k ≤ 1 * 2 ^ k := Nat.mul_le_mul_right _ (by omega)
      omega
    · intro h
      have : 2 * 2 ^ k ≤ m * 2 ^ k := Nat.mul_le_mul_right _ (by omega)
      omega
  · intro j
    rw [e4]
    rcases Nat.mod_two_eq_zero_or_one m with h | h
    · rw [h, Nat.zero_mul, Nat.add_zero]
      by_cases q : j = k
      · rw [if_pos q, q, Nat.testBit_lt_two_pow lo]; rfl
      · rw [if_neg q]
    · rw [h, Nat.one_mul, Nat.add_comm]
      by_cases q : j = k
      · rw [if_pos q, q, Nat.testBit_two_pow_add_eq, Nat.testBit_lt_two_pow lo]; rfl
      · rw [if_neg q]
        rcases Nat.lt_or_ge j k with r | r
        · rw [Nat.testBit_two_pow_add_gt r]
        · have a1 : u.testBit j = false := Nat.testBit_lt_two_pow (Nat.lt_of_lt_of_le lo (Nat.pow_le_pow_right (by decide) r))
          have a2 : (2 ^ k + u).testBit j = false := Nat.testBit_lt_two_pow (Nat.lt_of_lt_of_le (show 2 ^ k + u < 2 ^ (k + 1) by omega) (Nat.pow_le_pow_right (by decide) (by omega)))
          rw [a1, a2]
def addN (W x y : Nat) (c : Bool) : Nat := sumTo W x y c % 2 ^ W
def movTo (W k x : Nat) : Nat := x * 2 ^ k % 2 ^ W
theorem mul_step (W k x y : Nat) : (x * (y % 2 ^ (k + 1))) % 2 ^ W = if y.testBit k = true then addN W (x * (y % 2 ^ k) % 2 ^ W) (movTo W k x) false else x * (y % 2 ^ k) % 2 ^ W := by
  rw [mod_bit]
  cases y.testBit k
  · simp
  · rw [if_pos rfl]
    unfold addN sumTo movTo
    show x * (y % 2 ^ k + 1 * 2 ^ k) % 2 ^ W = (x * (y % 2 ^ k) % 2 ^ W % 2 ^ W + x * 2 ^ k % 2 ^ W % 2 ^ W + 0) % 2 ^ W
    rw [Nat.one_mul, Nat.mul_add, Nat.mod_mod, Nat.mod_mod, Nat.add_zero, ← Nat.add_mod]
theorem mov_step (W k x : Nat) : movTo W (k + 1) x = upN W (movTo W k x) false := by
  unfold movTo upN
  show x * 2 ^ (k + 1) % 2 ^ W = (x * 2 ^ k % 2 ^ W * 2 + 0) % 2 ^ W
  rw [Nat.pow_succ, ← Nat.mul_assoc, Nat.add_zero, Nat.mod_mul_mod]
theorem less_same {x y k : Nat} {b : Bool} (ha : x.testBit k = b) (hb : y.testBit k = b) (h : x / 2 ^ (k + 1) = y / 2 ^ (k + 1)) : x / 2 ^ k = y / 2 ^ k := by
  rw [half_bit x k, half_bit y k, h, ha, hb]
theorem less_top' {x y k : Nat} {a b : Bool} (ha : x.testBit k = a) (hb : y.testBit k = b) (hne : a ≠ b) (h : x / 2 ^ (k + 1) = y / 2 ^ (k + 1)) : decide (x < y) = b := by
  have ex := half_bit x k
  have ey := half_bit y k
  have pk : 0 < 2 ^ k := Nat.pow_pos (by decide)
  rw [ha] at ex
  rw [hb] at ey
  rw [h] at ex
  cases a
  · cases b
    · exact absurd rfl hne
    · apply decide_eq_true
      simp at ex ey
      rcases Nat.lt_or_ge x y with q | q
      · exact q
      · have := Nat.div_le_div_right (c := 2 ^ k) q
        omega
  · cases b
    · apply decide_eq_false
      intro q
      simp at ex ey
      have := Nat.div_le_div_right (c := 2 ^ k) (Nat.le_of_lt q)
      omega
    · exact absurd rfl hne
theorem mod_step {z k : Nat} {b : Bool} (hb : z.testBit k = b) (j : Nat) : (z % 2 ^ (k + 1)).testBit j = if j = k then b else (z % 2 ^ k).testBit j := by
  rw [of_bit, of_bit]
  by_cases d : j = k
  · rw [if_pos d, d, hb, decide_eq_true (by omega), Bool.true_and]
  · rw [if_neg d]
    congr 1
    congr 1
    exact propext ⟨fun h => by omega, fun h => by omega⟩
def dnTo (W x : Nat) (b : Bool) : Nat → Nat
  | 0 => x
  | k + 1 => downN' W (dnTo W x b k) b
def upTimes (W x : Nat) : Nat → Nat
  | 0 => x
  | k + 1 => upN W (upTimes W x k) false
theorem upTimes_eq {W x : Nat} (hx : x < 2 ^ W) : ∀ k, upTimes W x k = x * 2 ^ k % 2 ^ W
  | 0 => by rw [Nat.pow_zero, Nat.mul_one, Nat.mod_eq_of_lt hx]; rfl
  | k + 1 => by
    show upN W (upTimes W x k) false = _
    rw [upTimes_eq hx k]
    exact (mov_step W k x).symm
theorem dnTo_bit {W x : Nat} (h1 : 1 ≤ W) (hx : x < 2 ^ W) (b : Bool) : ∀ k j, (dnTo W x b k).testBit j = (decide (j < W) && (if j + k < W then x.testBit (j + k) else b))
  | 0, j => by
    show x.testBit j = _
    by_cases c : j < W
    · rw [decide_eq_true c, Bool.true_and, Nat.add_zero, if_pos c]
    · rw [decide_eq_false c, Bool.false_and]
      exact Nat.testBit_lt_two_pow (Nat.lt_of_lt_of_le hx (Nat.pow_le_pow_right (by decide) (by omega)))
  | k + 1, j => by
    show (downN' W (dnTo W x b k) b).testBit j = _
    rw [downN'_bit]
    by_cases c : j = W - 1
    · rw [if_pos c, decide_eq_true (by omega), Bool.true_and, if_neg (by omega)]
    · rw [if_neg c, of_bit, show (dnTo W x b k / 2).testBit j = (dnTo W x b k).testBit (j + 1) from divb (dnTo W x b k) 1 j, dnTo_bit h1 hx b k (j + 1)]
      by_cases d : j < W
      · rw [decide_eq_true (show j < W - 1 by omega), decide_eq_true (show j + 1 < W by omega), decide_eq_true d, Bool.true_and, Bool.true_and, show j + 1 + k = j + (k + 1) by omega, Bool.true_and]
      · rw [decide_eq_false (show ¬ j < W - 1 by omega), decide_eq_false d, Bool.false_and, Bool.false_and]
theorem dnTo_false {W x : Nat} (h1 : 1 ≤ W) (hx : x < 2 ^ W) (k : Nat) : dnTo W x false k = x / 2 ^ k := by
  apply Nat.eq_of_testBit_eq
  intro j
  rw [dnTo_bit h1 hx, divb]
  by_cases c : j + k < W
  · rw [if_pos c, decide_eq_true (show j < W by omega), Bool.true_and]
  · rw [if_neg c, Bool.and_false, Nat.testBit_lt_two_pow (Nat.lt_of_lt_of_le hx (Nat.pow_le_pow_right (by decide) (by omega)))]
theorem addN_eq {W x y : Nat} (hx : x < 2 ^ W) (hy : y < 2 ^ W) (c : Bool) : addN W x y c = (x + y + c.toNat) % 2 ^ W := by
  unfold addN sumTo
  rw [Nat.mod_eq_of_lt hx, Nat.mod_eq_of_lt hy]
theorem notN_eq {W x : Nat} (hx : x < 2 ^ W) : notN W x = 2 ^ W - 1 - x := by
  unfold notN
  rw [Nat.mod_eq_of_lt hx]
def quoTo (x y k : Nat) : Nat := x / 2 ^ k / y * 2 ^ k
def resTo (x y k : Nat) : Nat := x / 2 ^ k % y
theorem quo_bit_set (Q k j : Nat) : ((2 * Q + 1) * 2 ^ k).testBit j = if j = k then true else (Q * 2 ^ (k + 1)).testBit j := by
  rw [Nat.testBit_mul_two_pow, Nat.testBit_mul_two_pow]
  by_cases h : j = k
  · subst h; simp
  · rw [if_neg h]
    by_cases g : k + 1 ≤ j
    · rw [decide_eq_true g, decide_eq_true (show k ≤ j by omega), Bool.true_and, Bool.true_and]
      obtain ⟨d, rfl⟩ : ∃ d, j = k + 1 + d := ⟨j - (k + 1), by omega⟩
      rw [show k + 1 + d - k = d + 1 by omega, show k + 1 + d - (k + 1) = d by omega, Nat.testBit_succ]
      congr 1
      omega
    · rw [decide_eq_false g, decide_eq_false (show ¬ k ≤ j by omega), Bool.false_and, Bool.false_and]
theorem div_step {x y k full : Nat} (hy : 0 < y) (hf : full = resTo x y (k + 1) * 2 + (if x.testBit k = true then 1 else 0)) :
    (full < y → resTo x y k = full ∧ quoTo x y k = quoTo x y (k + 1)) ∧
    (y ≤ full → resTo x y k = full - y ∧ full - y < y ∧ ∀ j, (quoTo x y k).testBit j = if j = k then true else (quoTo x y (k + 1)).testBit j) := by
  have h := half_bit x k
  have hm := Nat.div_add_mod (x / 2 ^ (k + 1)) y
  have hl : x / 2 ^ (k + 1) % y < y := Nat.mod_lt _ hy
  unfold resTo quoTo at *
  generalize x / 2 ^ (k + 1) = X at *
  generalize hQ : X / y = Q at *
  generalize hR : X % y = R at *
  have hb : (if x.testBit k = true then 1 else 0) ≤ 1 := by split <;> omega
  generalize (if x.testBit k = true then 1 else 0) = b at *
  have hx : x / 2 ^ k = full + y * (2 * Q) := by
    rw [h, hf, ← hm, Nat.mul_left_comm, Nat.add_mul, Nat.mul_comm (y * Q) 2]; omega
  constructor
  · intro hlt
    rw [hx]
    constructor
    · rw [Nat.add_mul_mod_self_left, Nat.mod_eq_of_lt hlt]
    · rw [Nat.add_mul_div_left _ _ hy, Nat.div_eq_of_lt hlt, Nat.zero_add, Nat.pow_succ, Nat.mul_comm 2 Q, Nat.mul_assoc, Nat.mul_comm 2]
  · intro hge
    have e : x / 2 ^ k = (full - y) + y * (2 * Q + 1) := by
      rw [hx, Nat.mul_add, Nat.mul_one]; omega
    have hlt : full - y < y := by omega
    rw [e]
    refine ⟨?_, hlt, fun j => ?_⟩
    · rw [Nat.add_mul_mod_self_left, Nat.mod_eq_of_lt hlt]
    · rw [Nat.add_mul_div_left _ _ hy, Nat.div_eq_of_lt hlt, Nat.zero_add]
      exact quo_bit_set Q k j
theorem quo_start {x y W : Nat} (hx : x < 2 ^ W) : quoTo x y W = 0 ∧ resTo x y W = 0 := by
  unfold quoTo resTo; rw [Nat.div_eq_of_lt hx]; simp
theorem quo_end (x y : Nat) : quoTo x y 0 = x / y ∧ resTo x y 0 = x % y := by
  unfold quoTo resTo; rw [Nat.pow_zero, Nat.div_one, Nat.mul_one]; exact ⟨rfl, rfl⟩
def lessS (W x y : Nat) : Bool := if 2 ^ (W - 1) ≤ x then (if 2 ^ (W - 1) ≤ y then decide (x < y) else true) else (if 2 ^ (W - 1) ≤ y then false else decide (x < y))
def sarN (W x y : Nat) : Nat := if 2 ^ (W - 1) ≤ x then 2 ^ W - 1 - (if W ≤ y then 0 else (2 ^ W - 1 - x) / 2 ^ y) else (if W ≤ y then 0 else x / 2 ^ y)
theorem half_split (W : Nat) (h : 1 ≤ W) : 2 ^ W = 2 * 2 ^ (W - 1) := by
  obtain ⟨k, rfl⟩ : ∃ k, W = k + 1 := ⟨W - 1, by omega⟩
  rw [Nat.pow_succ]; simp; omega
theorem top_bit {W x : Nat} (h1 : 1 ≤ W) (hx : x < 2 ^ W) : x.testBit (W - 1) = decide (2 ^ (W - 1) ≤ x) := by
  have hs := half_split W h1
  have hp : 0 < 2 ^ (W - 1) := Nat.two_pow_pos _
  by_cases c : 2 ^ (W - 1) ≤ x
  · rw [decide_eq_true c]
    have e : x = 2 ^ (W - 1) + (x - 2 ^ (W - 1)) := by omega
    rw [e, Nat.testBit_two_pow_add_eq, Nat.testBit_lt_two_pow (by omega)]; rfl
  · rw [decide_eq_false c]; exact Nat.testBit_lt_two_pow (by omega)
theorem ref_sub {W x y : Nat} (hx : x < 2 ^ W) (hy : y < 2 ^ W) : addN W x (notN W y) true = (x + (2 ^ W - y)) % 2 ^ W := by
  unfold addN sumTo notN
  rw [Nat.mod_eq_of_lt hx, Nat.mod_eq_of_lt hy, Nat.mod_eq_of_lt (show 2 ^ W - 1 - y < 2 ^ W by omega)]
  congr 1
  show x + (2 ^ W - 1 - y) + 1 = _
  omega
theorem ref_shl {W x y : Nat} (hx : x < 2 ^ W) : x * 2 ^ min y W % 2 ^ W = if W ≤ y then 0 else x * 2 ^ y % 2 ^ W := by
  by_cases c : W ≤ y
  · rw [if_pos c, Nat.min_eq_right c, Nat.mul_mod_left]
  · rw [if_neg c, Nat.min_eq_left (by omega)]
theorem ref_shr {W x y : Nat} (hx : x < 2 ^ W) : x / 2 ^ min y W = if W ≤ y then 0 else x / 2 ^ y := by
  by_cases c : W ≤ y
  · rw [if_pos c, Nat.min_eq_right c, Nat.div_eq_of_lt hx]
  · rw [if_neg c, Nat.min_eq_left (by omega)]
theorem sar_bit {W x y : Nat} (h1 : 1 ≤ W) (hx : x < 2 ^ W) (j : Nat) : (sarN W x y).testBit j = (decide (j < W) && (if j + min y W < W then x.testBit (j + min y W) else x.testBit (W - 1))) := by
  have ht := top_bit h1 hx
  have hs := half_split W h1
  have e : ∀ z, z < 2 ^ W → (if W ≤ y then 0 else z / 2 ^ y) = z / 2 ^ min y W := fun z hz => (ref_shr hz).symm
  unfold sarN
  by_cases c : 2 ^ (W - 1) ≤ x
  · rw [if_pos c, e _ (by omega), ht, decide_eq_true c]
    have hl : (2 ^ W - 1 - x) / 2 ^ min y W < 2 ^ W := Nat.lt_of_le_of_lt (Nat.div_le_self _ _) (by omega)
    rw [show 2 ^ W - 1 - (2 ^ W - 1 - x) / 2 ^ min y W = 2 ^ W - ((2 ^ W - 1 - x) / 2 ^ min y W + 1) by omega, Nat.testBit_two_pow_sub_succ hl, Nat.testBit_div_two_pow, show 2 ^ W - 1 - x = 2 ^ W - (x + 1) by omega, Nat.testBit_two_pow_sub_succ hx]
    congr 1
    by_cases d : j + min y W < W
    · rw [if_pos d, decide_eq_true d, Bool.true_and, Bool.not_not]
    · rw [if_neg d, decide_eq_false d, Bool.false_and, Bool.not_false]
  · rw [if_neg c, e _ hx, ht, decide_eq_false c, Nat.testBit_div_two_pow]
    by_cases d : j + min y W < W
    · rw [if_pos d, decide_eq_true (show j < W by omega), Bool.true_and]
    · rw [if_neg d, Bool.and_false, Nat.testBit_lt_two_pow (Nat.lt_of_lt_of_le hx (Nat.pow_le_pow_right (by decide) (by omega)))]
theorem less_ref {W x y : Nat} (h1 : 1 ≤ W) (hx : x < 2 ^ W) (hy : y < 2 ^ W) : lessS W x y = if x.testBit (W - 1) = y.testBit (W - 1) then decide (x < y) else x.testBit (W - 1) := by
  rw [top_bit h1 hx, top_bit h1 hy]
  unfold lessS
  by_cases a : 2 ^ (W - 1) ≤ x <;> by_cases b : 2 ^ (W - 1) ≤ y <;> simp [a, b]

/-- A word's bits are a number's. -/
def Is (f : Nat → Bool) (x : Nat) : Prop := ∀ j, j < 64 → f j = x.testBit j
theorem upd_is {f : Nat → Bool} {i x y : Nat} {v : Bool} (hf : Is f x) (h : ∀ j, j < 64 → y.testBit j = if j = i then v else x.testBit j) : Is (upd f i v) y := fun j hj => by
  rw [h j hj]
  unfold upd
  split
  · rfl
  · exact hf j hj
theorem zero_is : Is (fun _ => false) 0 := fun j _ => (Nat.zero_testBit j).symm
theorem Is.cong {f : Nat → Bool} {x y : Nat} (h : Is f x) (e : ∀ j, j < 64 → y.testBit j = x.testBit j) : Is f y := fun j hj => by rw [h j hj, e j hj]
theorem bit_int (x i : Nat) : (((x / 2 ^ i : Nat) : Int).tmod 2 == (1 : Int)) = x.testBit i := by
  rw [Nat.testBit_eq_decide_div_mod_eq, Int.tmod_eq_emod_of_nonneg (Int.natCast_nonneg _)]
  have h2 := Nat.mod_two_eq_zero_or_one (x / 2 ^ i)
  have e : ((x / 2 ^ i : Nat) : Int) % 2 = ((x / 2 ^ i % 2 : Nat) : Int) := by omega
  rw [e]
  rcases h2 with h | h <;> rw [h] <;> rfl
theorem half_int {x i : Nat} (hx : x < 2 ^ 64) : IntKind.u64.wrap (((x / 2 ^ i : Nat) : Int).tdiv 2) = ((x / 2 ^ (i + 1) : Nat) : Int) := by
  rw [wrap_u64, Int.tdiv_eq_ediv_of_nonneg (Int.natCast_nonneg _)]
  have hd : x / 2 ^ i ≤ x := Nat.div_le_self _ _
  have e : x / 2 ^ (i + 1) = x / 2 ^ i / 2 := by rw [Nat.div_div_eq_div_mul, Nat.pow_succ]
  rw [e]
  generalize x / 2 ^ i = z at *
  omega
theorem rof_l0_is {w x0 : Int} {W x : Nat} (hw : w = W) (hW : W ≤ 64) (hx : x < 2 ^ 64) : ∀ (m i : Nat) (f : Nat → Bool), i ≤ 64 → Is f (x % 2 ^ min i W) → 64 - i < m → Is (rof_l0 w x0 m f i ((x / 2 ^ i : Nat) : Int)) (x % 2 ^ W) := by
  intro m
  induction m with
  | zero => intro i f _ _ hm; exact absurd hm (Nat.not_lt_zero _)
  | succ m ih =>
    intro i f hi hf hm
    rw [rof_l0]
    by_cases h : (i : Int) < 64
    · rw [decide_eq_true h, Int.toNat_natCast, bit_int, half_int hx]
      simp only [cond_true]
      rw [show ((i : Int) + 1) = ((i + 1 : Nat) : Int) from rfl]
      by_cases h2 : (i : Int) < w
      · rw [decide_eq_true h2]
        exact ih (i + 1) _ (by omega) (upd_is hf (of_step _ (by rw [decide_eq_true (show i < W by omega)]; rfl))) (by omega)
      · rw [decide_eq_false h2]
        exact ih (i + 1) _ (by omega) (upd_is hf (of_step _ (by rw [decide_eq_false (show ¬ i < W by omega)]; rfl))) (by omega)
    · rw [decide_eq_false h]
      rw [show min i W = W by omega] at hf
      exact hf
theorem rof_is {w x0 : Int} {W x : Nat} (hw : w = W) (hW : W ≤ 64) (hx : x < 2 ^ 64) (h0 : x0 = x) : Is (rof_s w x0) (x % 2 ^ W) := by
  have := rof_l0_is (x0 := x0) hw hW hx ((64 - ((0) : Int)).toNat + 1) 0 (fun _ => false) (by omega) (by rw [Nat.min_eq_left (Nat.zero_le _), Nat.pow_zero, Nat.mod_one]; exact zero_is) (by decide)
  rw [Nat.pow_zero, Nat.div_one, ← h0] at this
  exact this
theorem rnum_l0_is {f : Nat → Bool} {x : Nat} (hf : Is f x) (hx : x < 2 ^ 64) : ∀ (m k : Nat), k ≤ 64 → k < m → rnum_l0 f m ((x / 2 ^ k : Nat) : Int) ((k : Int) - 1) = x := by
  intro m
  induction m with
  | zero => intro k _ hm; exact absurd hm (Nat.not_lt_zero _)
  | succ m ih =>
    intro k hk hm
    rw [rnum_l0]
    cases k with
    | zero => rw [decide_eq_false (by omega)]; simp
    | succ k =>
      rw [show (((k + 1 : Nat) : Int) - 1) = (k : Int) by omega, decide_eq_true (Int.natCast_nonneg k), Int.toNat_natCast, hf k (by omega)]
      simp only [cond_true]
      have hb := half_bit x k
      have hd : x / 2 ^ k ≤ x := Nat.div_le_self _ _
      have := ih k (by omega) (by omega)
      rw [hb] at this hd
      generalize x / 2 ^ (k + 1) = z at this hd ⊢
      cases ht : x.testBit k with
      | true =>
        rw [ht] at this hd
        simp only [if_true] at this hd
        simp only [cond_true, wrap_u64]
        rw [show ((z : Int) * 2 % 18446744073709551616 + 1) % 18446744073709551616 = ((z * 2 + 1 : Nat) : Int) by omega]
        exact this
      | false =>
        rw [ht] at this hd
        simp only [Bool.false_eq_true, if_false, Nat.add_zero] at this hd
        simp only [cond_false, wrap_u64]
        rw [show ((z : Int) * 2 % 18446744073709551616) = ((z * 2 : Nat) : Int) by omega]
        exact this
theorem rnum_is {f : Nat → Bool} {x : Nat} (hf : Is f x) (hx : x < 2 ^ 64) : rnum_s f = x := by
  have := rnum_l0_is hf hx ((((63) : Int) + 1).toNat + 1) 64 (Nat.le_refl _) (by decide)
  rw [Nat.div_eq_of_lt hx] at this
  exact this
theorem rnot_is {w : Int} {W : Nat} (hw : w = W) (hW : W ≤ 64) {f : Nat → Bool} {x : Nat} (hf : Is f x) : Is (rnot_s w f) (notN W x) := by
  have key : ∀ (m i : Nat) (f1 : Nat → Bool), i ≤ W → Is f1 (notN W x % 2 ^ i) → W - i < m → Is (rnot_l0 w f m f1 i) (notN W x) := by
    intro m
    induction m with
    | zero => intro i f1 _ _ hm; exact absurd hm (Nat.not_lt_zero _)
    | succ m ih =>
      intro i f1 hi hf1 hm
      rw [rnot_l0]
      by_cases h : (i : Int) < w
      · rw [decide_eq_true h, Int.toNat_natCast, hf i (by omega)]
        simp only [cond_true]
        rw [show ((i : Int) + 1) = ((i + 1 : Nat) : Int) from rfl]
        exact ih (i + 1) _ (by omega) (upd_is hf1 (fun j _ => mod_step (by rw [notN_bit, decide_eq_true (show i < W by omega)]; rfl) j)) (by omega)
      · rw [decide_eq_false h]
        have e : notN W x % 2 ^ i = notN W x := Nat.mod_eq_of_lt (by rw [show i = W by omega]; unfold notN; have := Nat.two_pow_pos W; omega)
        rw [e] at hf1
        exact hf1
  unfold rnot_s
  exact key _ 0 _ (Nat.zero_le _) (by rw [Nat.pow_zero, Nat.mod_one]; exact zero_is) (by omega)
theorem radd_is {w : Int} {W : Nat} (hw : w = W) (hW : W ≤ 64) {f g : Nat → Bool} {x y : Nat} (hf : Is f x) (hg : Is g y) (c : Bool) : Is (radd_s w f g c) (addN W x y c) := by
  have key : ∀ (m i : Nat) (f1 : Nat → Bool) (cy : Bool), i ≤ W → Is f1 (sumTo i x y c % 2 ^ i) → decide (2 ^ i ≤ sumTo i x y c) = cy → W - i < m → Is (radd_l0 w f g c m f1 i cy) (addN W x y c) := by
    intro m
    induction m with
    | zero => intro i f1 cy _ _ _ hm; exact absurd hm (Nat.not_lt_zero _)
    | succ m ih =>
      intro i f1 cy hi hf1 hcy hm
      rw [radd_l0]
      by_cases h : (i : Int) < w
      · rw [decide_eq_true h, Int.toNat_natCast, hf i (by omega), hg i (by omega)]
        simp only [cond_true]
        rw [show ((i : Int) + 1) = ((i + 1 : Nat) : Int) from rfl]
        have st := sum_step i x y c (x.testBit i) (y.testBit i) cy rfl rfl hcy _ rfl
        cases ha : x.testBit i <;> cases hb : y.testBit i <;> cases cy <;> rw [ha, hb] at st <;> simp only [cond_true, cond_false] <;> exact ih (i + 1) _ _ (by omega) (upd_is hf1 (fun j _ => st.2 j)) st.1 (by omega)
      · rw [decide_eq_false h]
        obtain rfl : i = W := by omega
        exact hf1
  unfold radd_s
  refine key _ 0 _ c (Nat.zero_le _) (by rw [Nat.pow_zero, Nat.mod_one]; exact zero_is) ?_ (by omega)
  unfold sumTo
  rw [Nat.pow_zero, Nat.mod_one, Nat.mod_one]
  cases c <;> rfl
theorem rup_is {w : Int} {W : Nat} (hw : w = W) (h1 : 1 ≤ W) (hW : W ≤ 64) {f : Nat → Bool} {x : Nat} (hf : Is f x) (c : Bool) : Is (rup_s w f c) (upN W x c) := by
  have key : ∀ (m i : Nat) (f1 : Nat → Bool), i < W → Is f1 (upTo W x i) → i < m → Is (rup_l0 w f c m f1 i) (upN W x c) := by
    intro m
    induction m with
    | zero => intro i f1 _ _ hm; exact absurd hm (Nat.not_lt_zero _)
    | succ m ih =>
      intro i f1 hi hf1 hm
      rw [rup_l0]
      cases i with
      | zero =>
        rw [decide_eq_false (by omega)]
        refine upd_is hf1 (fun j _ => ?_)
        rw [upN_bit, upTo_bit]
        by_cases hj : j = 0
        · subst hj; rw [if_pos rfl, if_pos rfl, decide_eq_true (show 0 < W by omega)]; rfl
        · rw [if_neg hj, if_neg hj, decide_eq_true (show 0 < j by omega), decide_eq_true (show 1 ≤ j by omega)]; rfl
      | succ i =>
        rw [decide_eq_true (by omega), Int.toNat_natCast, show (((i + 1 : Nat) : Int) - 1) = (i : Int) by omega, Int.toNat_natCast, hf i (by omega)]
        refine ih i _ (by omega) (upd_is hf1 (fun j _ => ?_)) (by omega)
        rw [upTo_bit, upTo_bit]
        by_cases hj : j = i + 1
        · subst hj; rw [if_pos rfl, decide_eq_true (show i < i + 1 by omega), decide_eq_true hi, decide_eq_true (show 1 ≤ i + 1 by omega)]; rfl
        · rw [if_neg hj]
          congr 1
          exact decide_eq_decide.2 (by omega)
  unfold rup_s
  rw [show w - 1 = ((W - 1 : Nat) : Int) by omega]
  refine key _ (W - 1) _ (by omega) (fun j _ => ?_) (by omega)
  rw [upTo_bit]
  by_cases hj : W - 1 < j
  · rw [decide_eq_false (show ¬ j < W by omega)]; simp
  · rw [decide_eq_false hj]; simp
theorem rdn_is {w : Int} {W : Nat} (hw : w = W) (h1 : 1 ≤ W) (hW : W ≤ 64) {f : Nat → Bool} {x : Nat} (hf : Is f x) (c : Bool) : Is (rdn_s w f c) (downN' W x c) := by
  have key : ∀ (m i : Nat) (f1 : Nat → Bool), i ≤ W - 1 → Is f1 (x / 2 % 2 ^ i) → W - i < m → Is (rdn_l0 w f c m f1 i) (downN' W x c) := by
    intro m
    induction m with
    | zero => intro i f1 _ _ hm; exact absurd hm (Nat.not_lt_zero _)
    | succ m ih =>
      intro i f1 hi hf1 hm
      rw [rdn_l0]
      by_cases h : (i : Int) < w - 1
      · rw [decide_eq_true h, Int.toNat_natCast, show ((i : Int) + 1) = ((i + 1 : Nat) : Int) from rfl, Int.toNat_natCast, hf (i + 1) (by omega)]
        exact ih (i + 1) _ (by omega) (upd_is hf1 (fun j _ => mod_step (show (x / 2).testBit i = x.testBit (i + 1) from divb x 1 i) j)) (by omega)
      · rw [decide_eq_false h]
        obtain rfl : i = W - 1 := by omega
        rw [show (w - 1).toNat = W - 1 by omega]
        exact upd_is hf1 (fun j _ => downN'_bit W x c j)
  unfold rdn_s
  exact key _ 0 _ (Nat.zero_le _) (by rw [Nat.pow_zero, Nat.mod_one]; exact zero_is) (by omega)
theorem rmul_is {w : Int} {W : Nat} (hw : w = W) (h1 : 1 ≤ W) (hW : W ≤ 64) {f g : Nat → Bool} {x y : Nat} (hf : Is f x) (hg : Is g y) (hx : x < 2 ^ W) : Is (rmul_s w f g) (x * (y % 2 ^ W) % 2 ^ W) := by
  have key : ∀ (m i : Nat) (f1 x1 : Nat → Bool), i ≤ W → Is f1 (x * (y % 2 ^ i) % 2 ^ W) → Is x1 (movTo W i x) → W - i < m → Is (rmul_l0 w f g m f1 x1 i) (x * (y % 2 ^ W) % 2 ^ W) := by
    intro m
    induction m with
    | zero => intro i f1 x1 _ _ _ hm; exact absurd hm (Nat.not_lt_zero _)
    | succ m ih =>
      intro i f1 x1 hi hf1 hx1 hm
      rw [rmul_l0]
      by_cases h : (i : Int) < w
      · rw [decide_eq_true h, Int.toNat_natCast, hg i (by omega)]
        simp only [cond_true]
        rw [show ((i : Int) + 1) = ((i + 1 : Nat) : Int) from rfl]
        have hn := mov_step W i x
        have hs := mul_step W i x y
        have hx2 : Is (rup_s w x1 false) (movTo W (i + 1) x) := by rw [hn]; exact rup_is hw h1 hW hx1 false
        cases hb : y.testBit i with
        | true =>
          rw [hb, if_pos rfl] at hs
          exact ih (i + 1) _ _ (by omega) (by rw [hs]; exact radd_is hw hW hf1 hx1 false) hx2 (by omega)
        | false =>
          rw [hb] at hs
          simp only [Bool.false_eq_true, if_false] at hs
          exact ih (i + 1) _ _ (by omega) (by rw [hs]; exact hf1) hx2 (by omega)
      · rw [decide_eq_false h]
        obtain rfl : i = W := by omega
        exact hf1
  unfold rmul_s
  exact key _ 0 _ _ (Nat.zero_le _) (by rw [Nat.pow_zero, Nat.mod_one, Nat.mul_zero, Nat.zero_mod]; exact zero_is) (by unfold movTo; rw [Nat.pow_zero, Nat.mul_one, Nat.mod_eq_of_lt hx]; exact hf) (by omega)
theorem rless_is {w : Int} {W : Nat} (hw : w = W) (hW : W ≤ 64) {f g : Nat → Bool} {x y : Nat} (hf : Is f x) (hg : Is g y) (hx : x < 2 ^ W) (hy : y < 2 ^ W) : rless_s w f g = decide (x < y) := by
  have key : ∀ (m k : Nat), k ≤ W → x / 2 ^ k = y / 2 ^ k → k < m → rless_l0 w f g m ((k : Int) - 1) = decide (x < y) := by
    intro m
    induction m with
    | zero => intro k _ _ hm; exact absurd hm (Nat.not_lt_zero _)
    | succ m ih =>
      intro k hk he hm
      rw [rless_l0]
      cases k with
      | zero =>
        rw [decide_eq_false (by omega)]
        rw [Nat.pow_zero, Nat.div_one, Nat.div_one] at he
        rw [he]
        exact (decide_eq_false (Nat.lt_irrefl _)).symm
      | succ k =>
        rw [show (((k + 1 : Nat) : Int) - 1) = (k : Int) by omega, decide_eq_true (Int.natCast_nonneg k), Int.toNat_natCast, hf k (by omega), hg k (by omega)]
        simp only [cond_true]
        by_cases hb : x.testBit k = y.testBit k
        · rw [hb, beq_self_eq_true]
          exact ih k (by omega) (less_same rfl hb.symm he) (by omega)
        · rw [beq_eq_false_iff_ne.2 hb]
          exact (less_top' rfl rfl hb he).symm
  unfold rless_s
  subst hw
  exact key ((((W : Int) - 1) + 1).toNat + 1) W (Nat.le_refl _) (by rw [Nat.div_eq_of_lt hx, Nat.div_eq_of_lt hy]) (by omega)
theorem rfar_is {w : Int} {W : Nat} (hw : w = W) (hW : W ≤ 64) {f : Nat → Bool} {x : Nat} (hf : Is f x) (hx : x < 2 ^ 64) : rfar_s w f = (min x W : Nat) := by
  unfold rfar_s
  rw [rnum_is hf hx, hw, wrap_u64]
  by_cases h : (x : Int) > (W : Int) % 18446744073709551616
  · rw [decide_eq_true h]; show (W : Int) = _; omega
  · rw [decide_eq_false h]; show (x : Int) = _; omega
theorem rtru_is (b : Bool) : Is (rtru_s b) b.toNat := by
  unfold rtru_s
  exact upd_is zero_is (fun j _ => one_bit b j)
theorem rbit_is {op w : Int} {W : Nat} (hw : w = W) (hW : W ≤ 64) {f g : Nat → Bool} {x y z : Nat} (hf : Is f x) (hg : Is g y) (hz : z < 2 ^ W)
    (ho : op = 13 ∧ z = x &&& y ∨ op = 14 ∧ z = x ||| y ∨ op = 15 ∧ z = x ^^^ y) : Is (rbit_s op w f g) z := by
  have key : ∀ (m i : Nat) (f1 : Nat → Bool), i ≤ W → Is f1 (z % 2 ^ i) → W - i < m → Is (rbit_l0 op w f g m f1 i) z := by
    intro m
    induction m with
    | zero => intro i f1 _ _ hm; exact absurd hm (Nat.not_lt_zero _)
    | succ m ih =>
      intro i f1 hi hf1 hm
      rw [rbit_l0]
      by_cases h : (i : Int) < w
      · rw [decide_eq_true h, Int.toNat_natCast, hf i (by omega), hg i (by omega)]
        simp only [cond_true]
        rw [show ((i : Int) + 1) = ((i + 1 : Nat) : Int) from rfl]
        have go : ∀ b, z.testBit i = b → Is (rbit_l0 op w f g m (upd f1 i b) ((i + 1 : Nat) : Int)) z := fun b hb => ih (i + 1) _ (by omega) (upd_is hf1 (fun j _ => mod_step hb j)) (by omega)
        rcases ho with ⟨rfl, rfl⟩ | ⟨rfl, rfl⟩ | ⟨rfl, rfl⟩
        · have hz : (x &&& y).testBit i = (x.testBit i && y.testBit i) := Nat.testBit_and ..
          rw [show ((13 : Int) == 13) = true from rfl]
          cases hb : x.testBit i with
          | true => rw [hb] at hz; exact go _ hz
          | false => rw [hb] at hz; exact go _ hz
        · have hz : (x ||| y).testBit i = (x.testBit i || y.testBit i) := Nat.testBit_or ..
          rw [show ((14 : Int) == 13) = false from rfl, show ((14 : Int) == 14) = true from rfl]
          cases hb : x.testBit i with
          | true => rw [hb] at hz; exact go _ hz
          | false => rw [hb] at hz; exact go _ hz
        · have hz : (x ^^^ y).testBit i = (x.testBit i ^^ y.testBit i) := Nat.testBit_xor ..
          rw [show ((15 : Int) == 13) = false from rfl, show ((15 : Int) == 14) = false from rfl, show ((15 : Int) == 15) = true from rfl]
          exact go _ (by rw [hz]; cases x.testBit i <;> cases y.testBit i <;> rfl)
      · rw [decide_eq_false h]
        rw [show i = W by omega, Nat.mod_eq_of_lt hz] at hf1
        exact hf1
  unfold rbit_s
  exact key _ 0 _ (Nat.zero_le _) (by rw [Nat.pow_zero, Nat.mod_one]; exact zero_is) (by omega)
theorem upTimes_lt {W x : Nat} (hx : x < 2 ^ W) (k : Nat) : upTimes W x k < 2 ^ W := by
  rw [upTimes_eq hx]; exact Nat.mod_lt _ (Nat.two_pow_pos _)
theorem rmov_l0_is {op w : Int} {W : Nat} (hw : w = W) (h1 : 1 ≤ W) (hW : W ≤ 64) {f g : Nat → Bool} {x y : Nat} (hg : Is g y) (hy : y < 2 ^ 64) (b : Bool) : ∀ (m i : Nat) (x1 : Nat → Bool), i ≤ min y W → Is x1 (if op = 16 then upTimes W x i else dnTo W x b i) → min y W - i < m → Is (rmov_l0 op w f g m x1 b i) (if op = 16 then upTimes W x (min y W) else dnTo W x b (min y W)) := by
  intro m
  induction m with
  | zero => intro i x1 _ _ hm; exact absurd hm (Nat.not_lt_zero _)
  | succ m ih =>
    intro i x1 hi hx1 hm
    rw [rmov_l0, rfar_is hw hW hg hy]
    by_cases h : (i : Int) < ((min y W : Nat) : Int)
    · rw [decide_eq_true h]
      simp only [cond_true]
      rw [show ((i : Int) + 1) = ((i + 1 : Nat) : Int) from rfl]
      by_cases ho : op = 16
      · rw [if_pos ho] at hx1
        rw [show (op == (16 : Int)) = true by simpa using ho]
        exact ih (i + 1) _ (by omega) (by rw [if_pos ho]; exact rup_is hw h1 hW hx1 false) (by omega)
      · rw [if_neg ho] at hx1
        rw [show (op == (16 : Int)) = false by simpa using ho]
        exact ih (i + 1) _ (by omega) (by rw [if_neg ho]; exact rdn_is hw h1 hW hx1 b) (by omega)
    · rw [decide_eq_false h]
      have e : i = min y W := by omega
      rw [← e]
      exact hx1
theorem rmov_is {op w : Int} {W : Nat} (hw : w = W) (h1 : 1 ≤ W) (hW : W ≤ 64) {f g : Nat → Bool} {x y : Nat} (hf : Is f x) (hg : Is g y) (hy : y < 2 ^ 64) : Is (rmov_s op w f g) (if op = 16 then upTimes W x (min y W) else dnTo W x (op == 18 && x.testBit (W - 1)) (min y W)) := by
  have hfar := rfar_is hw hW hg hy
  unfold rmov_s
  rw [hfar]
  have st : ∀ b, Is f (if op = 16 then upTimes W x 0 else dnTo W x b 0) := fun b => by split <;> exact hf
  cases h : (op == (18 : Int)) with
  | true =>
    simp only [cond_true, Bool.true_and]
    rw [show (w - 1).toNat = W - 1 by omega, hf (W - 1) (by omega)]
    exact rmov_l0_is hw h1 hW hg hy _ _ 0 f (Nat.zero_le _) (st _) (by omega)
  | false =>
    simp only [cond_false, Bool.false_and]
    exact rmov_l0_is hw h1 hW hg hy false _ 0 f (Nat.zero_le _) (st _) (by omega)
theorem rdiv_is {w : Int} {W : Nat} (hw : w = W) (h1 : 1 ≤ W) (hW : W ≤ 64) {f g : Nat → Bool} {x y : Nat} (hf : Is f x) (hg : Is g y) (hx : x < 2 ^ W) (hy : y < 2 ^ W) : Is (rdiv_s w f g).1 (if y = 0 then 2 ^ W - 1 else x / y) ∧ Is (rdiv_s w f g).2 (if y = 0 then x else x % y) := by
  have hp : 2 ^ W ≤ 2 ^ 64 := Nat.pow_le_pow_right (by decide) hW
  unfold rdiv_s
  rw [rnum_is hg (by omega)]
  by_cases hy0 : y = 0
  · rw [if_pos hy0, if_pos hy0, show ((y : Int) == 0) = true by simp [hy0]]
    have := rnot_is hw hW zero_is
    rw [notN_eq (Nat.two_pow_pos W), Nat.sub_zero] at this
    exact ⟨this, hf⟩
  rw [if_neg hy0, if_neg hy0, show ((y : Int) == 0) = false by simp [hy0]]
  have key : ∀ (m k : Nat) (q r : Nat → Bool), k ≤ W → Is q (quoTo x y k) → Is r (resTo x y k) → k < m → Is (rdiv_l0 w f g m q r ((k : Int) - 1)).1 (x / y) ∧ Is (rdiv_l0 w f g m q r ((k : Int) - 1)).2 (x % y) := by
    intro m
    induction m with
    | zero => intro k q r _ _ _ hm; exact absurd hm (Nat.not_lt_zero _)
    | succ m ih =>
      intro k q r hk hq hr hm
      rw [rdiv_l0]
      cases k with
      | zero =>
        rw [decide_eq_false (by omega)]
        rw [(quo_end x y).1] at hq
        rw [(quo_end x y).2] at hr
        exact ⟨hq, hr⟩
      | succ k =>
        have hR : resTo x y (k + 1) < y := Nat.mod_lt _ (by omega)
        rw [show (((k + 1 : Nat) : Int) - 1) = (k : Int) by omega, decide_eq_true (Int.natCast_nonneg k), Int.toNat_natCast, show (w - 1).toNat = W - 1 by omega, hf k (by omega), hr (W - 1) (by omega), top_bit h1 (by omega)]
        simp only [cond_true]
        obtain ⟨full, hfull⟩ : ∃ full, full = resTo x y (k + 1) * 2 + (if x.testBit k = true then 1 else 0) := ⟨_, rfl⟩
        have ds := div_step (show 0 < y by omega) hfull
        have hfb : full = resTo x y (k + 1) * 2 + (x.testBit k).toNat := by rw [hfull]; cases x.testBit k <;> rfl
        have hup : Is (rup_s w r (x.testBit k)) (full % 2 ^ W) := by
          have := rup_is hw h1 hW hr (x.testBit k)
          unfold upN at this
          rwa [← hfb] at this
        have hs := half_split W h1
        have hb2 := Bool.toNat_lt (x.testBit k)
        have hadd : y ≤ full → Is (radd_s w (rup_s w r (x.testBit k)) (rnot_s w g) true) (full - y) := fun hge => by
          have ha := radd_is hw hW hup (rnot_is hw hW hg) true
          have hml : full % 2 ^ W < 2 ^ W := Nat.mod_lt _ (Nat.two_pow_pos W)
          rw [ref_sub hml hy] at ha
          have e : (full % 2 ^ W + (2 ^ W - y)) % 2 ^ W = full - y := by
            by_cases c : full < 2 ^ W
            · rw [Nat.mod_eq_of_lt c, show full + (2 ^ W - y) = (full - y) + 2 ^ W by omega, Nat.add_mod_right, Nat.mod_eq_of_lt (by omega)]
            · have hf2 : full - 2 ^ W < 2 ^ W := by omega
              rw [Nat.mod_eq_sub_mod (show 2 ^ W ≤ full by omega), Nat.mod_eq_of_lt hf2, show full - 2 ^ W + (2 ^ W - y) = full - y by omega, Nat.mod_eq_of_lt (by omega)]
          rwa [e] at ha
        have yes : y ≤ full → Is (rdiv_l0 w f g m (upd q k true) (radd_s w (rup_s w r (x.testBit k)) (rnot_s w g) true) ((k : Int) - 1)).1 (x / y) ∧ Is (rdiv_l0 w f g m (upd q k true) (radd_s w (rup_s w r (x.testBit k)) (rnot_s w g) true) ((k : Int) - 1)).2 (x % y) := fun hge => by
          obtain ⟨d1, d2, d3⟩ := ds.2 hge
          exact ih k _ _ (by omega) (upd_is hq (fun j _ => d3 j)) (by rw [d1]; exact hadd hge) (by omega)
        by_cases ho : 2 ^ (W - 1) ≤ resTo x y (k + 1)
        · rw [decide_eq_true ho]
          exact yes (by omega)
        · rw [decide_eq_false ho]
          have hfl : full < 2 ^ W := by omega
          rw [Nat.mod_eq_of_lt hfl] at hup
          rw [rless_is hw hW hup hg hfl hy]
          by_cases hl : full < y
          · rw [decide_eq_true hl]
            obtain ⟨d1, d2⟩ := ds.1 hl
            exact ih k _ _ (by omega) (by rw [d2]; exact hq) (by rw [d1]; exact hup) (by omega)
          · rw [decide_eq_false hl]
            exact yes (by omega)
  have := key ((((w - 1) : Int) + 1).toNat + 1) W (fun _ => false) (fun _ => false) (Nat.le_refl _) (by rw [(quo_start hx).1]; exact zero_is) (by rw [(quo_start hx).2]; exact zero_is) (by omega)
  subst hw
  exact this
theorem eqA_iff {f g : Nat → Bool} : ∀ (n i : Nat), eqA f g n i = true ↔ ∀ j, i ≤ j → j < i + n → f j = g j := by
  intro n
  induction n with
  | zero => intro i; exact ⟨fun _ j h1 h2 => by omega, fun _ => rfl⟩
  | succ n ih =>
    intro i
    show (f i == g i && eqA f g n (i + 1)) = true ↔ _
    rw [Bool.and_eq_true, beq_iff_eq, ih]
    constructor
    · rintro ⟨h1, h2⟩ j h3 h4
      by_cases e : j = i
      · rw [e]; exact h1
      · exact h2 j (by omega) (by omega)
    · intro h
      exact ⟨h i (Nat.le_refl _) (by omega), fun j h3 h4 => h j (by omega) (by omega)⟩
theorem eqA_is {f g : Nat → Bool} {x y : Nat} (hf : Is f x) (hg : Is g y) (hx : x < 2 ^ 64) (hy : y < 2 ^ 64) : eqA f g 64 0 = decide (x = y) := by
  apply Bool.eq_iff_iff.2
  rw [decide_eq_true_eq, eqA_iff]
  constructor
  · intro h
    apply Nat.eq_of_testBit_eq
    intro j
    by_cases hj : j < 64
    · rw [← hf j hj, ← hg j hj]; exact h j (Nat.zero_le _) (by omega)
    · rw [Nat.testBit_lt_two_pow (Nat.lt_of_lt_of_le hx (Nat.pow_le_pow_right (by decide) (by omega))), Nat.testBit_lt_two_pow (Nat.lt_of_lt_of_le hy (Nat.pow_le_pow_right (by decide) (by omega)))]
  · intro h j _ hj
    rw [hf j (by omega), hg j (by omega), h]
end Go.Proofs.YtjlfgbaphnpbfaaDoor.Sx.M5
