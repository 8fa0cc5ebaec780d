/- The document's words: what its functions come to, of natural numbers. -/
import Derived.Test.YtahobmjchppciaaDoorK2
import Derived.Laws.BitsLemmas
import Derived.Lib.TrailingZeros
open Go Go.Proofs Go.RowKit
namespace Go.Proofs.YtahobmjchppciaaDoor.Sx.M5
set_option linter.unusedVariables false
set_option linter.unusedSimpArgs false
theorem half_bit (x j : Nat) : x / 2 ^ j = x / 2 ^ (j + 1) * 2 + (if x.testBit j = true then 1 else 0) := by
  have e : x / 2 ^ (j + 1) = x / 2 ^ j / 2 := by rw [Nat.div_div_eq_div_mul, Nat.pow_succ]
  have t := Nat.testBit_eq_decide_div_mod_eq (x := x) (i := j)
  rw [e, t]
  by_cases c : x / 2 ^ j % 2 = 1
  · rw [decide_eq_true c, if_pos rfl]; omega
  · rw [decide_eq_false c, if_neg (by decide)]; omega
def notN (k x : Nat) : Nat := 2 ^ k - 1 - x % 2 ^ k
theorem notN_bit (k x i : Nat) : (notN k x).testBit i = (decide (i < k) && !x.testBit i) := by
  have l : x % 2 ^ k < 2 ^ k := Nat.mod_lt _ (Nat.pow_pos (by decide))
  unfold notN
  rw [show 2 ^ k - 1 - x % 2 ^ k = 2 ^ k - (x % 2 ^ k + 1) by omega, Nat.testBit_two_pow_sub_succ l, Nat.testBit_mod_two_pow]
  by_cases c : i < k
  · rw [decide_eq_true c]; rfl
  · rw [decide_eq_false c]; rfl
theorem one_bit (b : Bool) (j : Nat) : b.toNat.testBit j = if j = 0 then b else (0 : Nat).testBit j := by
  rcases j with _ | j
  · cases b <;> rfl
  · cases b
    · simp
    · simp [Nat.testBit_succ]
theorem of_bit (x k j : Nat) : (x % 2 ^ k).testBit j = (decide (j < k) && x.testBit j) := Nat.testBit_mod_two_pow x k j
theorem of_step {W k x : Nat} (b : Bool) (hb : b = (decide (k < W) && x.testBit k)) (j : Nat) (hj : j < 64) : (x % 2 ^ min (k + 1) W).testBit j = if j = k then b else (x % 2 ^ min k W).testBit j := by
  rw [of_bit, of_bit]
  by_cases d : j = k
  · rw [if_pos d, d, hb]
    congr 2
    exact propext ⟨fun h => by omega, fun h => by omega⟩
  · rw [if_neg d]
    congr 2
    exact propext ⟨fun h => by omega, fun h => by omega⟩
theorem mulb (x s j : Nat) : (x * 2 ^ s).testBit j = (decide (s ≤ j) && x.testBit (j - s)) := by rw [Nat.testBit_mul_two_pow]
theorem divb (x s j : Nat) : (x / 2 ^ s).testBit j = x.testBit (j + s) := by rw [Nat.testBit_div_two_pow]
theorem dbl_bit (x j : Nat) : (x * 2).testBit j = (decide (1 ≤ j) && x.testBit (j - 1)) := mulb x 1 j
def upTo (W x k : Nat) : Nat := x * 2 % 2 ^ W / 2 ^ (k + 1) * 2 ^ (k + 1)
theorem upTo_bit (W x k j : Nat) : (upTo W x k).testBit j = (decide (k < j) && (decide (j < W) && (decide (1 ≤ j) && x.testBit (j - 1)))) := by
  unfold upTo
  rw [mulb, divb]
  by_cases c : k < j
  · rw [decide_eq_true (show k + 1 ≤ j by omega), decide_eq_true c, show j - (k + 1) + (k + 1) = j by omega, of_bit, dbl_bit]
  · rw [decide_eq_false (show ¬ k + 1 ≤ j by omega), decide_eq_false c]; rfl
def upN (W x : Nat) (b : Bool) : Nat := (x * 2 + b.toNat) % 2 ^ W
theorem upN_bit (W x : Nat) (b : Bool) (j : Nat) : (upN W x b).testBit j = (decide (j < W) && (if j = 0 then b else x.testBit (j - 1))) := by
  unfold upN
  rw [of_bit]
  congr 1
  rcases j with _ | j
  · rw [if_pos rfl, Nat.testBit_zero]
    cases b <;> simp [Nat.add_mod]
  · rw [if_neg (by omega), Nat.testBit_succ, show (x * 2 + b.toNat) / 2 = x by have := Bool.toNat_lt b; omega]
    rfl
def downN' (W x : Nat) (b : Bool) : Nat := x / 2 % 2 ^ (W - 1) ||| b.toNat * 2 ^ (W - 1)
theorem downN'_bit (W x : Nat) (b : Bool) (j : Nat) : (downN' W x b).testBit j = if j = W - 1 then b else (x / 2 % 2 ^ (W - 1)).testBit j := by
  unfold downN'
  rw [Nat.testBit_or, of_bit, mulb]
  by_cases c : j = W - 1
  · rw [if_pos c, decide_eq_false (by omega), decide_eq_true (by omega), Bool.false_and, Bool.false_or, Bool.true_and, c, Nat.sub_self]
    cases b <;> rfl
  · rw [if_neg c]
    have z : ∀ m, b.toNat.testBit (m + 1) = false := fun m => by rw [Nat.testBit_succ]; cases b <;> simp
    by_cases d : W - 1 ≤ j
    · obtain ⟨m, hm⟩ : ∃ m, j - (W - 1) = m + 1 := ⟨j - (W - 1) - 1, by omega⟩
      rw [hm, z, Bool.and_false, Bool.or_false]
    · rw [decide_eq_false d, Bool.false_and, Bool.or_false]
def sumTo (k x y : Nat) (c : Bool) : Nat := x % 2 ^ k + y % 2 ^ k + c.toNat
theorem mod_bit (x k : Nat) : x % 2 ^ (k + 1) = x % 2 ^ k + (x.testBit k).toNat * 2 ^ k := by
  have e : x % 2 ^ (k + 1) = x % 2 ^ k + 2 ^ k * (x / 2 ^ k % 2) := by rw [Nat.pow_succ, Nat.mod_mul]
  rw [e, Nat.testBit_eq_decide_div_mod_eq]
  rcases Nat.mod_two_eq_zero_or_one (x / 2 ^ k) with h | h <;> rw [h] <;> simp
theorem sum_step (k x y : Nat) (c a b d : Bool) (ha : x.testBit k = a) (hb : y.testBit k = b) (hd : decide (2 ^ k ≤ sumTo k x y c) = d) (m : Nat) (hm : m = a.toNat + b.toNat + d.toNat) :
    decide (2 ^ (k + 1) ≤ sumTo (k + 1) x y c) = decide (1 < m) ∧ ∀ j, (sumTo (k + 1) x y c % 2 ^ (k + 1)).testBit j = if j = k then decide (m % 2 = 1) else (sumTo k x y c % 2 ^ k).testBit j := by
  have pk : 0 < 2 ^ k := Nat.pow_pos (by decide)
  have e1 : sumTo (k + 1) x y c = sumTo k x y c + (a.toNat + b.toNat) * 2 ^ k := by
    unfold sumTo
    rw [mod_bit x, mod_bit y, ha, hb, Nat.add_mul]
    omega
  have lx := Nat.mod_lt x pk
  have ly := Nat.mod_lt y pk
  have lc := Bool.toNat_lt c
  have e2 : sumTo k x y c = sumTo k x y c % 2 ^ k + d.toNat * 2 ^ k := by
    have s : sumTo k x y c < 2 * 2 ^ k := by unfold sumTo; omega
    rw [← hd]
    by_cases q : 2 ^ k ≤ sumTo k x y c
    · rw [decide_eq_true q, Nat.mod_eq_sub_mod q, Nat.mod_eq_of_lt (by omega)]
      show sumTo k x y c = sumTo k x y c - 2 ^ k + 1 * 2 ^ k
      omega
    · rw [decide_eq_false q, Nat.mod_eq_of_lt (by omega)]
      show sumTo k x y c = sumTo k x y c + 0 * 2 ^ k
      omega
  have lo := Nat.mod_lt (sumTo k x y c) pk
  generalize sumTo k x y c % 2 ^ k = u at *
  have e3 : sumTo (k + 1) x y c = u + m * 2 ^ k := by
    rw [e1, e2, hm]
    simp only [Nat.add_mul]
    omega
  have hm3 : m ≤ 3 := by rw [hm]; have := Bool.toNat_lt a; have := Bool.toNat_lt b; have := Bool.toNat_lt d; omega
  have p2 : 2 ^ (k + 1) = 2 * 2 ^ k := by rw [Nat.pow_succ]; omega
  have hmul : (m / 2) * 2 ^ (k + 1) + (m % 2) * 2 ^ k = m * 2 ^ k := by
    rw [p2, ← Nat.mul_assoc, ← Nat.add_mul]
    congr 1
    omega
  have e4 : sumTo (k + 1) x y c % 2 ^ (k + 1) = u + (m % 2) * 2 ^ k := by
    have l2 : u + (m % 2) * 2 ^ k < 2 ^ (k + 1) := by
      rcases Nat.mod_two_eq_zero_or_one m with h | h <;> rw [h] <;> omega
    rw [e3, ← hmul, show u + (m / 2 * 2 ^ (k + 1) + m % 2 * 2 ^ k) = (u + m % 2 * 2 ^ k) + 2 ^ (k + 1) * (m / 2) by rw [Nat.mul_comm (m / 2)]; omega, Nat.add_mul_mod_self_left, Nat.mod_eq_of_lt l2]
  constructor
  · apply Bool.eq_iff_iff.2
    rw [decide_eq_true_eq, decide_eq_true_eq, e3, p2]
    constructor
    · intro h
      apply Classical.byContradiction
      intro hn
      have : m * 2 ^ k ≤ 1 * 2 ^ k := Nat.mul_le_mul_right _ (by omega)
      omega
    · intro h
      have : 2 * 2 ^ k ≤ m * 2 ^ k := Nat.mul_le_mul_right _ (by omega)
      omega
  · intro j
    rw [e4]
    rcases Nat.mod_two_eq_zero_or_one m with h | h
    · rw [h, Nat.zero_mul, Nat.add_zero]
      by_cases q : j = k
      · rw [if_pos q, q, Nat.testBit_lt_two_pow lo]; rfl
      · rw [if_neg q]
    · rw [h, Nat.one_mul, Nat.add_comm]
      by_cases q : j = k
      · rw [if_pos q, q, Nat.testBit_two_pow_add_eq, Nat.testBit_lt_two_pow lo]; rfl
      · rw [if_neg q]
        rcases Nat.lt_or_ge j k with r | r
        · rw [Nat.testBit_two_pow_add_gt r]
        · have a1 : u.testBit j = false := Nat.testBit_lt_two_pow (Nat.lt_of_lt_of_le lo (Nat.pow_le_pow_right (by decide) r))
          have a2 : (2 ^ k + u).testBit j = false := Nat.testBit_lt_two_pow (Nat.lt_of_lt_of_le (show 2 ^ k + u < 2 ^ (k + 1) by omega) (Nat.pow_le_pow_right (by decide) (by omega)))
          rw [a1, a2]
def addN (W x y : Nat) (c : Bool) : Nat := sumTo W x y c % 2 ^ W
def movTo (W k x : Nat) : Nat := x * 2 ^ k % 2 ^ W
theorem mul_step (W k x y : Nat) : (x * (y % 2 ^ (k + 1))) % 2 ^ W = if y.testBit k = true then addN W (x * (y % 2 ^ k) % 2 ^ W) (movTo W k x) false else x * (y % 2 ^ k) % 2 ^ W := by
  rw [mod_bit]
  cases y.testBit k
  · simp
  · rw [if_pos rfl]
    unfold addN sumTo movTo
    show x * (y % 2 ^ k + 1 * 2 ^ k) % 2 ^ W = (x * (y % 2 ^ k) % 2 ^ W % 2 ^ W + x * 2 ^ k % 2 ^ W % 2 ^ W + 0) % 2 ^ W
    rw [Nat.one_mul, Nat.mul_add, Nat.mod_mod, Nat.mod_mod, Nat.add_zero, ← Nat.add_mod]
theorem mov_step (W k x : Nat) : movTo W (k + 1) x = upN W (movTo W k x) false := by
  unfold movTo upN
  show x * 2 ^ (k + 1) % 2 ^ W = (x * 2 ^ k % 2 ^ W * 2 + 0) % 2 ^ W
  rw [Nat.pow_succ, ← Nat.mul_assoc, Nat.add_zero, Nat.mod_mul_mod]
theorem less_same {x y k : Nat} {b : Bool} (ha : x.testBit k = b) (hb : y.testBit k = b) (h : x / 2 ^ (k + 1) = y / 2 ^ (k + 1)) : x / 2 ^ k = y / 2 ^ k := by
  rw [half_bit x k, half_bit y k, h, ha, hb]
theorem less_top' {x y k : Nat} {a b : Bool} (ha : x.testBit k = a) (hb : y.testBit k = b) (hne : a ≠ b) (h : x / 2 ^ (k + 1) = y / 2 ^ (k + 1)) : decide (x < y) = b := by
  have ex := half_bit x k
  have ey := half_bit y k
  have pk : 0 < 2 ^ k := Nat.pow_pos (by decide)
  rw [ha] at ex
  rw [hb] at ey
  rw [h] at ex
  cases a
  · cases b
    · exact absurd rfl hne
    · apply decide_eq_true
      simp at ex ey
      rcases Nat.lt_or_ge x y with q | q
      · exact q
      · have := Nat.div_le_div_right (c := 2 ^ k) q
        omega
  · cases b
    · apply decide_eq_false
      intro q
      simp at ex ey
      have := Nat.div_le_div_right (c := 2 ^ k) (Nat.le_of_lt q)
      omega
    · exact absurd rfl hne
theorem mod_step {z k : Nat} {b : Bool} (hb : z.testBit k = b) (j : Nat) : (z % 2 ^ (k + 1)).testBit j = if j = k then b else (z % 2 ^ k).testBit j := by
  rw [of_bit, of_bit]
  by_cases d : j = k
  · rw [if_pos d, d, hb, decide_eq_true (by omega), Bool.true_and]
  · rw [if_neg d]
    congr 1
    congr 1
    exact propext ⟨fun h => by omega, fun h => by omega⟩
def dnTo (W x : Nat) (b : Bool) : Nat → Nat
  | 0 => x
  | k + 1 => downN' W (dnTo W x b k) b
def upTimes (W x : Nat) : Nat → Nat
  | 0 => x
  | k + 1 => upN W (upTimes W x k) false
theorem upTimes_eq {W x : Nat} (hx : x < 2 ^ W) : ∀ k, upTimes W x k = x * 2 ^ k % 2 ^ W
  | 0 => by rw [Nat.pow_zero, Nat.mul_one, Nat.mod_eq_of_lt hx]; rfl
  | k + 1 => by
    show upN W (upTimes W x k) false = _
    rw [upTimes_eq hx k]
    exact (mov_step W k x).symm
theorem dnTo_bit {W x : Nat} (h1 : 1 ≤ W) (hx : x < 2 ^ W) (b : Bool) : ∀ k j, (dnTo W x b k).testBit j = (decide (j < W) && (if j + k < W then x.testBit (j + k) else b))
  | 0, j => by
    show x.testBit j = _
    by_cases c : j < W
    · rw [decide_eq_true c, Bool.true_and, Nat.add_zero, if_pos c]
    · rw [decide_eq_false c, Bool.false_and]
      exact Nat.testBit_lt_two_pow (Nat.lt_of_lt_of_le hx (Nat.pow_le_pow_right (by decide) (by omega)))
  | k + 1, j => by
    show (downN' W (dnTo W x b k) b).testBit j = _
    rw [downN'_bit]
    by_cases c : j = W - 1
    · rw [if_pos c, decide_eq_true (by omega), Bool.true_and, if_neg (by omega)]
    · rw [if_neg c, of_bit, show (dnTo W x b k / 2).testBit j = (dnTo W x b k).testBit (j + 1) from divb (dnTo W x b k) 1 j, dnTo_bit h1 hx b k (j + 1)]
      by_cases d : j < W
      · rw [decide_eq_true (show j < W - 1 by omega), decide_eq_true (show j + 1 < W by omega), decide_eq_true d, Bool.true_and, Bool.true_and, show j + 1 + k = j + (k + 1) by omega, Bool.true_and]
      · rw [decide_eq_false (show ¬ j < W - 1 by omega), decide_eq_false d, Bool.false_and, Bool.false_and]
theorem dnTo_false {W x : Nat} (h1 : 1 ≤ W) (hx : x < 2 ^ W) (k : Nat) : dnTo W x false k = x / 2 ^ k := by
  apply Nat.eq_of_testBit_eq
  intro j
  rw [dnTo_bit h1 hx, divb]
  by_cases c : j + k < W
  · rw [if_pos c, decide_eq_true (show j < W by omega), Bool.true_and]
  · rw [if_neg c, Bool.and_false, Nat.testBit_lt_two_pow (Nat.lt_of_lt_of_le hx (Nat.pow_le_pow_right (by decide) (by omega)))]
theorem addN_eq {W x y : Nat} (hx : x < 2 ^ W) (hy : y < 2 ^ W) (c : Bool) : addN W x y c = (x + y + c.toNat) % 2 ^ W := by
  unfold addN sumTo
  rw [Nat.mod_eq_of_lt hx, Nat.mod_eq_of_lt hy]
theorem notN_eq {W x : Nat} (hx : x < 2 ^ W) : notN W x = 2 ^ W - 1 - x := by
  unfold notN
  rw [Nat.mod_eq_of_lt hx]
def quoTo (x y k : Nat) : Nat := x / 2 ^ k / y * 2 ^ k
def resTo (x y k : Nat) : Nat := x / 2 ^ k % y
theorem quo_bit_set (Q k j : Nat) : ((2 * Q + 1) * 2 ^ k).testBit j = if j = k then true else (Q * 2 ^ (k + 1)).testBit j := by
  rw [Nat.testBit_mul_two_pow, Nat.testBit_mul_two_pow]
  by_cases h : j = k
  · subst h; simp
  · rw [if_neg h]
    by_cases g : k + 1 ≤ j
    · rw [decide_eq_true g, decide_eq_true (show k ≤ j by omega), Bool.true_and, Bool.true_and]
      obtain ⟨d, rfl⟩ : ∃ d, j = k + 1 + d := ⟨j - (k + 1), by omega⟩
      rw [show k + 1 + d - k = d + 1 by omega, show k + 1 + d - (k + 1) = d by omega, Nat.testBit_succ]
      congr 1
      omega
    · rw [decide_eq_false g, decide_eq_false (show ¬ k ≤ j by omega), Bool.false_and, Bool.false_and]
theorem div_step {x y k full : Nat} (hy : 0 < y) (hf : full = resTo x y (k + 1) * 2 + (if x.testBit k = true then 1 else 0)) :
    (full < y → resTo x y k = full ∧ quoTo x y k = quoTo x y (k + 1)) ∧
    (y ≤ full → resTo x y k = full - y ∧ full - y < y ∧ ∀ j, (quoTo x y k).testBit j = if j = k then true else (quoTo x y (k + 1)).testBit j) := by
  have h := half_bit x k
  have hm := Nat.div_add_mod (x / 2 ^ (k + 1)) y
  have hl : x / 2 ^ (k + 1) % y < y := Nat.mod_lt _ hy
  unfold resTo quoTo at *
  generalize x / 2 ^ (k + 1) = X at *
  generalize hQ : X / y = Q at *
  generalize hR : X % y = R at *
  have hb : (if x.testBit k = true then 1 else 0) ≤ 1 := by split <;> omega
  generalize (if x.testBit k = true then 1 else 0) = b at *
  have hx : x / 2 ^ k = full + y * (2 * Q) := by
    rw [h, hf, ← hm, Nat.mul_left_comm, Nat.add_mul, Nat.mul_comm (y * Q) 2]; omega
  constructor
  · intro hlt
    rw [hx]
    constructor
    · rw [Nat.add_mul_mod_self_left, Nat.mod_eq_of_lt hlt]
    · rw [Nat.add_mul_div_left _ _ hy, Nat.div_eq_of_lt hlt, Nat.zero_add, Nat.pow_succ, Nat.mul_comm 2 Q, Nat.mul_assoc, Nat.mul_comm 2]
  · intro hge
    have e : x / 2 ^ k = (full - y) + y * (2 * Q + 1) := by
      rw [hx, Nat.mul_add, Nat.mul_one]; omega
    have hlt : full - y < y := by omega
    rw [e]
    refine ⟨?_, hlt, fun j => ?_⟩
    · rw [Nat.add_mul_mod_self_left, Nat.mod_eq_of_lt hlt]
    · rw [Nat.add_mul_div_left _ _ hy, Nat.div_eq_of_lt hlt, Nat.zero_add]
      exact quo_bit_set Q k j
theorem quo_start {x y W : Nat} (hx : x < 2 ^ W) : quoTo x y W = 0 ∧ resTo x y W = 0 := by
  unfold quoTo resTo; rw [Nat.div_eq_of_lt hx]; simp
theorem quo_end (x y : Nat) : quoTo x y 0 = x / y ∧ resTo x y 0 = x % y := by
  unfold quoTo resTo; rw [Nat.pow_zero, Nat.div_one, Nat.mul_one]; exact ⟨rfl, rfl⟩
def lessS (W x y : Nat) : Bool := if 2 ^ (W - 1) ≤ x then (if 2 ^ (W - 1) ≤ y then decide (x < y) else true) else (if 2 ^ (W - 1) ≤ y then false else decide (x < y))
def sarN (W x y : Nat) : Nat := if 2 ^ (W - 1) ≤ x then 2 ^ W - 1 - (if W ≤ y then 0 else (2 ^ W - 1 - x) / 2 ^ y) else (if W ≤ y then 0 else x / 2 ^ y)
theorem half_split (W : Nat) (h : 1 ≤ W) : 2 ^ W = 2 * 2 ^ (W - 1) := by
  obtain ⟨k, rfl⟩ : ∃ k, W = k + 1 := ⟨W - 1, by omega⟩
  rw [Nat.pow_succ]; simp; omega
theorem top_bit {W x : Nat} (h1 : 1 ≤ W) (hx : x < 2 ^ W) : x.testBit (W - 1) = decide (2 ^ (W - 1) ≤ x) := by
  have hs := half_split W h1
  have hp : 0 < 2 ^ (W - 1) := Nat.two_pow_pos _
  by_cases c : 2 ^ (W - 1) ≤ x
  · rw [decide_eq_true c]
    have e : x = 2 ^ (W - 1) + (x - 2 ^ (W - 1)) := by omega
    rw [e, Nat.testBit_two_pow_add_eq, Nat.testBit_lt_two_pow (by omega)]; rfl
  · rw [decide_eq_false c]; exact Nat.testBit_lt_two_pow (by omega)
theorem ref_sub {W x y : Nat} (hx : x < 2 ^ W) (hy : y < 2 ^ W) : addN W x (notN W y) true = (x + (2 ^ W - y)) % 2 ^ W := by
  unfold addN sumTo notN
  rw [Nat.mod_eq_of_lt hx, Nat.mod_eq_of_lt hy, Nat.mod_eq_of_lt (show 2 ^ W - 1 - y < 2 ^ W by omega)]
  congr 1
  show x + (2 ^ W - 1 - y) + 1 = _
  omega
theorem ref_shl {W x y : Nat} (hx : x < 2 ^ W) : x * 2 ^ min y W % 2 ^ W = if W ≤ y then 0 else x * 2 ^ y % 2 ^ W := by
  by_cases c : W ≤ y
  · rw [if_pos c, Nat.min_eq_right c, Nat.mul_mod_left]
  · rw [if_neg c, Nat.min_eq_left (by omega)]
theorem ref_shr {W x y : Nat} (hx : x < 2 ^ W) : x / 2 ^ min y W = if W ≤ y then 0 else x / 2 ^ y := by
  by_cases c : W ≤ y
  · rw [if_pos c, Nat.min_eq_right c, Nat.div_eq_of_lt hx]
  · rw [if_neg c, Nat.min_eq_left (by omega)]
theorem sar_bit {W x y : Nat} (h1 : 1 ≤ W) (hx : x < 2 ^ W) (j : Nat) : (sarN W x y).testBit j = (decide (j < W) && (if j + min y W < W then x.testBit (j + min y W) else x.testBit (W - 1))) := by
  have ht := top_bit h1 hx
  have hs := half_split W h1
  have e : ∀ z, z < 2 ^ W → (if W ≤ y then 0 else z / 2 ^ y) = z / 2 ^ min y W := fun z hz => (ref_shr hz).symm
  unfold sarN
  by_cases c : 2 ^ (W - 1) ≤ x
  · rw [if_pos c, e _ (by omega), ht, decide_eq_true c]
    have hl : (2 ^ W - 1 - x) / 2 ^ min y W < 2 ^ W := Nat.lt_of_le_of_lt (Nat.div_le_self _ _) (by omega)
    rw [show 2 ^ W - 1 - (2 ^ W - 1 - x) / 2 ^ min y W = 2 ^ W - ((2 ^ W - 1 - x) / 2 ^ min y W + 1) by omega, Nat.testBit_two_pow_sub_succ hl, Nat.testBit_div_two_pow, show 2 ^ W - 1 - x = 2 ^ W - (x + 1) by omega, Nat.testBit_two_pow_sub_succ hx]
    congr 1
    by_cases d : j + min y W < W
    · rw [if_pos d, decide_eq_true d, Bool.true_and, Bool.not_not]
    · rw [if_neg d, decide_eq_false d, Bool.false_and, Bool.not_false]
  · rw [if_neg c, e _ hx, ht, decide_eq_false c, Nat.testBit_div_two_pow]
    by_cases d : j + min y W < W
    · rw [if_pos d, decide_eq_true (show j < W by omega), Bool.true_and]
    · rw [if_neg d, Bool.and_false, Nat.testBit_lt_two_pow (Nat.lt_of_lt_of_le hx (Nat.pow_le_pow_right (by decide) (by omega)))]
theorem less_ref {W x y : Nat} (h1 : 1 ≤ W) (hx : x < 2 ^ W) (hy : y < 2 ^ W) : lessS W x y = if x.testBit (W - 1) = y.testBit (W - 1) then decide (x < y) else x.testBit (W - 1) := by
  rw [top_bit h1 hx, top_bit h1 hy]
  unfold lessS
  by_cases a : 2 ^ (W - 1) ≤ x <;> by_cases b : 2 ^ (W - 1) ≤ y <;> simp [a, b]

/-- A word's bits are a number's. -/
def Is (f : Nat → Bool) (x : Nat) : Prop := ∀ j, j < 64 → f j = x.testBit j
theorem upd_is {f : Nat → Bool} {i x y : Nat} {v : Bool} (hf : Is f x) (h : ∀ j, j < 64 → y.testBit j = if j = i then v else x.testBit j) : Is (upd f i v) y := fun j hj => by
  rw [h j hj]
  unfold upd
  split
  · rfl
  · exact hf j hj
theorem zero_is : Is (fun _ => false) 0 := fun j _ => (Nat.zero_testBit j).symm
theorem Is.cong {f : Nat → Bool} {x y : Nat} (h : Is f x) (e : ∀ j, j < 64 → y.testBit j = x.testBit j) : Is f y := fun j hj => by rw [h j hj, e j hj]
theorem bit_int (x i : Nat) : (((x / 2 ^ i : Nat) : Int).tmod 2 == (1 : Int)) = x.testBit i := by
  rw [Nat.testBit_eq_decide_div_mod_eq, Int.tmod_eq_emod_of_nonneg (Int.natCast_nonneg _)]
  have h2 := Nat.mod_two_eq_zero_or_one (x / 2 ^ i)
  have e : ((x / 2 ^ i : Nat) : Int) % 2 = ((x / 2 ^ i % 2 : Nat) : Int) := by omega
  rw [e]
  rcases h2 with h | h <;> rw [h] <;> rfl
theorem half_int {x i : Nat} (hx : x < 2 ^ 64) : IntKind.u64.wrap (((x / 2 ^ i : Nat) : Int).tdiv 2) = ((x / 2 ^ (i + 1) : Nat) : Int) := by
  rw [wrap_u64, Int.tdiv_eq_ediv_of_nonneg (Int.natCast_nonneg _)]
  have hd : x / 2 ^ i ≤ x := Nat.div_le_self _ _
  have e : x / 2 ^ (i + 1) = x / 2 ^ i / 2 := by rw [Nat.div_div_eq_div_mul, Nat.pow_succ]
  rw [e]
  generalize x / 2 ^ i = z at *
  omega
theorem rof_l0_is {w x0 : Int} {W x : Nat} (hw : w = W) (hW : W ≤ 64) (hx : x < 2 ^ 64) : ∀ (m i : Nat) (f : Nat → Bool), i ≤ 64 → Is f (x % 2 ^ min i W) → 64 - i < m → Is (rof_l0 w x0 m f i ((x / 2 ^ i : Nat) : Int)) (x % 2 ^ W) := by
  intro m
  induction m with
  | zero => intro i f _ _ hm; exact absurd hm (Nat.not_lt_zero _)
  | succ m ih =>
    intro i f hi hf hm
    rw [rof_l0]
    by_cases h : (i : Int) < 64
    · rw [decide_eq_true h, Int.toNat_natCast, bit_int, half_int hx]
      simp only [cond_true]
      rw [show ((i : Int) + 1) = ((i + 1 : Nat) : Int) from rfl]
      by_cases h2 : (i : Int) < w
      · rw [decide_eq_true h2]
        exact ih (i + 1) _ (by omega) (upd_is hf (of_step _ (by rw [decide_eq_true (show i < W by omega)]; rfl))) (by omega)
      · rw [decide_eq_false h2]
        exact ih (i + 1) _ (by omega) (upd_is hf (of_step _ (by rw [decide_eq_false (show ¬ i < W by omega)]; rfl))) (by omega)
    · rw [decide_eq_false h]
      rw [show min i W = W by omega] at hf
      exact hf
theorem rof_is {w x0 : Int} {W x : Nat} (hw : w = W) (hW : W ≤ 64) (hx : x < 2 ^ 64) (h0 : x0 = x) : Is (rof_s w x0) (x % 2 ^ W) := by
  have := rof_l0_is (x0 := x0) hw hW hx ((64 - ((0) : Int)).toNat + 1) 0 (fun _ => false) (by omega) (by rw [Nat.min_eq_left (Nat.zero_le _), Nat.pow_zero, Nat.mod_one]; exact zero_is) (by decide)
  rw [Nat.pow_zero, Nat.div_one, ← h0] at this
  exact this
theorem rnum_l0_is {f : Nat → Bool} {x : Nat} (hf : Is f x) (hx : x < 2 ^ 64) : ∀ (m k : Nat), k ≤ 64 → k < m → rnum_l0 f m ((x / 2 ^ k : Nat) : Int) ((k : Int) - 1) = x := by
  intro m
  induction m with
  | zero => intro k _ hm; exact absurd hm (Nat.not_lt_zero _)
  | succ m ih =>
    intro k hk hm
    rw [rnum_l0]
    cases k with
    | zero => rw [decide_eq_false (by omega)]; simp
    | succ k =>
      rw [show (((k + 1 : Nat) : Int) - 1) = (k : Int) by omega, decide_eq_true (Int.natCast_nonneg k), Int.toNat_natCast, hf k (by omega)]
      simp only [cond_true]
      have hb := half_bit x k
      have hd : x / 2 ^ k ≤ x := Nat.div_le_self _ _
      have := ih k (by omega) (by omega)
      rw [hb] at this hd
      generalize x / 2 ^ (k + 1) = z at this hd ⊢
      cases ht : x.testBit k with
      | true =>
        rw [ht] at this hd
        simp only [if_true] at this hd
        simp only [cond_true, wrap_u64]
        rw [show ((z : Int) * 2 % 18446744073709551616 + 1) % 18446744073709551616 = ((z * 2 + 1 : Nat) : Int) by omega]
        exact this
      | false =>
        rw [ht] at this hd
        simp only [Bool.false_eq_true, if_false, Nat.add_zero] at this hd
        simp only [cond_false, wrap_u64]
        rw [show ((z : Int) * 2 % 18446744073709551616) = ((z * 2 : Nat) : Int) by omega]
        exact this
theorem rnum_is {f : Nat → Bool} {x : Nat} (hf : Is f x) (hx : x < 2 ^ 64) : rnum_s f = x := by
  have := rnum_l0_is hf hx ((((63) : Int) + 1).toNat + 1) 64 (Nat.le_refl _) (by decide)
  rw [Nat.div_eq_of_lt hx] at this
  exact this
theorem rnot_is {w : Int} {W : Nat} (hw : w = W) (hW : W ≤ 64) {f : Nat → Bool} {x : Nat} (hf : Is f x) : Is (rnot_s w f) (notN W x) := by
  have key : ∀ (m i : Nat) (f1 : Nat → Bool), i ≤ W → Is f1 (notN W x % 2 ^ i) → W - i < m → Is (rnot_l0 w f m f1 i) (notN W x) := by
    intro m
    induction m with
    | zero => intro i f1 _ _ hm; exact absurd hm (Nat.not_lt_zero _)
    | succ m ih =>
      intro i f1 hi hf1 hm
      rw [rnot_l0]
      by_cases h : (i : Int) < w
      · rw [decide_eq_true h, Int.toNat_natCast, hf i (by omega)]
        simp only [cond_true]
        rw [show ((i : Int) + 1) = ((i + 1 : Nat) : Int) from rfl]
        exact ih (i + 1) _ (by omega) (upd_is hf1 (fun j _ => mod_step (by rw [notN_bit, decide_eq_true (show i < W by omega)]; rfl) j)) (by omega)
      · rw [decide_eq_false h]
        have e : notN W x % 2 ^ i = notN W x := Nat.mod_eq_of_lt (by rw [show i = W by omega]; unfold notN; have := Nat.two_pow_pos W; omega)
        rw [e] at hf1
        exact hf1
  unfold rnot_s
  exact key _ 0 _ (Nat.zero_le _) (by rw [Nat.pow_zero, Nat.mod_one]; exact zero_is) (by omega)
theorem radd_is {w : Int} {W : Nat} (hw : w = W) (hW : W ≤ 64) {f g : Nat → Bool} {x y : Nat} (hf : Is f x) (hg : Is g y) (c : Bool) : Is (radd_s w f g c) (addN W x y c) := by
  have key : ∀ (m i : Nat) (f1 : Nat → Bool) (cy : Bool), i ≤ W → Is f1 (sumTo i x y c % 2 ^ i) → decide (2 ^ i ≤ sumTo i x y c) = cy → W - i < m → Is (radd_l0 w f g c m f1 i cy) (addN W x y c) := by
    intro m
    induction m with
    | zero => intro i f1 cy _ _ _ hm; exact absurd hm (Nat.not_lt_zero _)
    | succ m ih =>
      intro i f1 cy hi hf1 hcy hm
      rw [radd_l0]
      by_cases h : (i : Int) < w
      · rw [decide_eq_true h, Int.toNat_natCast, hf i (by omega), hg i (by omega)]
        simp only [cond_true]
        rw [show ((i : Int) + 1) = ((i + 1 : Nat) : Int) from rfl]
        have st := sum_step i x y c (x.testBit i) (y.testBit i) cy rfl rfl hcy _ rfl
        cases ha : x.testBit i <;> cases hb : y.testBit i <;> cases cy <;> rw [ha, hb] at st <;> simp only [cond_true, cond_false] <;> exact ih (i + 1) _ _ (by omega) (upd_is hf1 (fun j _ => st.2 j)) st.1 (by omega)
      · rw [decide_eq_false h]
        obtain rfl : i = W := by omega
        exact hf1
  unfold radd_s
  refine key _ 0 _ c (Nat.zero_le _) (by rw [Nat.pow_zero, Nat.mod_one]; exact zero_is) ?_ (by omega)
  unfold sumTo
  rw [Nat.pow_zero, Nat.mod_one, Nat.mod_one]
  cases c <;> rfl
theorem rup_is {w : Int} {W : Nat} (hw : w = W) (h1 : 1 ≤ W) (hW : W ≤ 64) {f : Nat → Bool} {x : Nat} (hf : Is f x) (c : Bool) : Is (rup_s w f c) (upN W x c) := by
  have key : ∀ (m i : Nat) (f1 : Nat → Bool), i < W → Is f1 (upTo W x i) → i < m → Is (rup_l0 w f c m f1 i) (upN W x c) := by
    intro m
    induction m with
    | zero => intro i f1 _ _ hm; exact absurd hm (Nat.not_lt_zero _)
    | succ m ih =>
      intro i f1 hi hf1 hm
      rw [rup_l0]
      cases i with
      | zero =>
        rw [decide_eq_false (by omega)]
        refine upd_is hf1 (fun j _ => ?_)
        rw [upN_bit, upTo_bit]
        by_cases hj : j = 0
        · subst hj; rw [if_pos rfl, if_pos rfl, decide_eq_true (show 0 < W by omega)]; rfl
        · rw [if_neg hj, if_neg hj, decide_eq_true (show 0 < j by omega), decide_eq_true (show 1 ≤ j by omega)]; rfl
      | succ i =>
        rw [decide_eq_true (by omega), Int.toNat_natCast, show (((i + 1 : Nat) : Int) - 1) = (i : Int) by omega, Int.toNat_natCast, hf i (by omega)]
        refine ih i _ (by omega) (upd_is hf1 (fun j _ => ?_)) (by omega)
        rw [upTo_bit, upTo_bit]
        by_cases hj : j = i + 1
        · subst hj; rw [if_pos rfl, decide_eq_true (show i < i + 1 by omega), decide_eq_true hi, decide_eq_true (show 1 ≤ i + 1 by omega)]; rfl
        · rw [if_neg hj]
          congr 1
          exact decide_eq_decide.2 (by omega)
  unfold rup_s
  rw [show w - 1 = ((W - 1 : Nat) : Int) by omega]
  refine key _ (W - 1) _ (by omega) (fun j _ => ?_) (by omega)
  rw [upTo_bit]
  by_cases hj : W - 1 < j
  · rw [decide_eq_false (show ¬ j < W by omega)]; simp
  · rw [decide_eq_false hj]; simp
theorem rdn_is {w : Int} {W : Nat} (hw : w = W) (h1 : 1 ≤ W) (hW : W ≤ 64) {f : Nat → Bool} {x : Nat} (hf : Is f x) (c : Bool) : Is (rdn_s w f c) (downN' W x c) := by
  have key : ∀ (m i : Nat) (f1 : Nat → Bool), i ≤ W - 1 → Is f1 (x / 2 % 2 ^ i) → W - i < m → Is (rdn_l0 w f c m f1 i) (downN' W x c) := by
    intro m
    induction m with
    | zero => intro i f1 _ _ hm; exact absurd hm (Nat.not_lt_zero _)
    | succ m ih =>
      intro i f1 hi hf1 hm
      rw [rdn_l0]
      by_cases h : (i : Int) < w - 1
      · rw [decide_eq_true h, Int.toNat_natCast, show ((i : Int) + 1) = ((i + 1 : Nat) : Int) from rfl, Int.toNat_natCast, hf (i + 1) (by omega)]
        exact ih (i + 1) _ (by omega) (upd_is hf1 (fun j _ => mod_step (show (x / 2).testBit i = x.testBit (i + 1) from divb x 1 i) j)) (by omega)
      · rw [decide_eq_false h]
        obtain rfl : i = W - 1 := by omega
        rw [show (w - 1).toNat = W - 1 by omega]
        exact upd_is hf1 (fun j _ => downN'_bit W x c j)
  unfold rdn_s
  exact key _ 0 _ (Nat.zero_le _) (by rw [Nat.pow_zero, Nat.mod_one]; exact zero_is) (by omega)
theorem rmul_is {w : Int} {W : Nat} (hw : w = W) (h1 : 1 ≤ W) (hW : W ≤ 64) {f g : Nat → Bool} {x y : Nat} (hf : Is f x) (hg : Is g y) (hx : x < 2 ^ W) : Is (rmul_s w f g) (x * (y % 2 ^ W) % 2 ^ W) := by
  have key : ∀ (m i : Nat) (f1 x1 : Nat → Bool), i ≤ W → Is f1 (x * (y % 2 ^ i) % 2 ^ W) → Is x1 (movTo W i x) → W - i < m → Is (rmul_l0 w f g m f1 x1 i) (x * (y % 2 ^ W) % 2 ^ W) := by
    intro m
    induction m with
    | zero => intro i f1 x1 _ _ _ hm; exact absurd hm (Nat.not_lt_zero _)
    | succ m ih =>
      intro i f1 x1 hi hf1 hx1 hm
      rw [rmul_l0]
      by_cases h : (i : Int) < w
      · rw [decide_eq_true h, Int.toNat_natCast, hg i (by omega)]
        simp only [cond_true]
        rw [show ((i : Int) + 1) = ((i + 1 : Nat) : Int) from rfl]
        have hn := mov_step W i x
        have hs := mul_step W i x y
        have hx2 : Is (rup_s w x1 false) (movTo W (i + 1) x) := by rw [hn]; exact rup_is hw h1 hW hx1 false
        cases hb : y.testBit i with
        | true =>
          rw [hb, if_pos rfl] at hs
          exact ih (i + 1) _ _ (by omega) (by rw [hs]; exact radd_is hw hW hf1 hx1 false) hx2 (by omega)
        | false =>
          rw [hb] at hs
          simp only [Bool.false_eq_true, if_false] at hs
          exact ih (i + 1) _ _ (by omega) (by rw [hs]; exact hf1) hx2 (by omega)
      · rw [decide_eq_false h]
        obtain rfl : i = W := by omega
        exact hf1
  unfold rmul_s
  exact key _ 0 _ _ (Nat.zero_le _) (by rw [Nat.pow_zero, Nat.mod_one, Nat.mul_zero, Nat.zero_mod]; exact zero_is) (by unfold movTo; rw [Nat.pow_zero, Nat.mul_one, Nat.mod_eq_of_lt hx]; exact hf) (by omega)
theorem rless_is {w : Int} {W : Nat} (hw : w = W) (hW : W ≤ 64) {f g : Nat → Bool} {x y : Nat} (hf : Is f x) (hg : Is g y) (hx : x < 2 ^ W) (hy : y < 2 ^ W) : rless_s w f g = decide (x < y) := by
  have key : ∀ (m k : Nat), k ≤ W → x / 2 ^ k = y / 2 ^ k → k < m → rless_l0 w f g m ((k : Int) - 1) = decide (x < y) := by
    intro m
    induction m with
    | zero => intro k _ _ hm; exact absurd hm (Nat.not_lt_zero _)
    | succ m ih =>
      intro k hk he hm
      rw [rless_l0]
      cases k with
      | zero =>
        rw [decide_eq_false (by omega)]
        rw [Nat.pow_zero, Nat.div_one, Nat.div_one] at he
        rw [he]
        exact (decide_eq_false (Nat.lt_irrefl _)).symm
      | succ k =>
        rw [show (((k + 1 : Nat) : Int) - 1) = (k : Int) by omega, decide_eq_true (Int.natCast_nonneg k), Int.toNat_natCast, hf k (by omega), hg k (by omega)]
        simp only [cond_true]
        by_cases hb : x.testBit k = y.testBit k
        · rw [hb, beq_self_eq_true]
          exact ih k (by omega) (less_same rfl hb.symm he) (by omega)
        · rw [beq_eq_false_iff_ne.2 hb]
          exact (less_top' rfl rfl hb he).symm
  unfold rless_s
  subst hw
  exact key ((((W : Int) - 1) + 1).toNat + 1) W (Nat.le_refl _) (by rw [Nat.div_eq_of_lt hx, Nat.div_eq_of_lt hy]) (by omega)
theorem rfar_is {w : Int} {W : Nat} (hw : w = W) (hW : W ≤ 64) {f : Nat → Bool} {x : Nat} (hf : Is f x) (hx : x < 2 ^ 64) : rfar_s w f = (min x W : Nat) := by
  unfold rfar_s
  rw [rnum_is hf hx, hw, wrap_u64]
  by_cases h : (x : Int) > (W : Int) % 18446744073709551616
  · rw [decide_eq_true h]; show (W : Int) = _; omega
  · rw [decide_eq_false h]; show (x : Int) = _; omega
theorem rtru_is (b : Bool) : Is (rtru_s b) b.toNat := by
  unfold rtru_s
  exact upd_is zero_is (fun j _ => one_bit b j)
theorem rbit_is {op w : Int} {W : Nat} (hw : w = W) (hW : W ≤ 64) {f g : Nat → Bool} {x y z : Nat} (hf : Is f x) (hg : Is g y) (hz : z < 2 ^ W)
    (ho : op = 13 ∧ z = x &&& y ∨ op = 14 ∧ z = x ||| y ∨ op = 15 ∧ z = x ^^^ y) : Is (rbit_s op w f g) z := by
  have key : ∀ (m i : Nat) (f1 : Nat → Bool), i ≤ W → Is f1 (z % 2 ^ i) → W - i < m → Is (rbit_l0 op w f g m f1 i) z := by
    intro m
    induction m with
    | zero => intro i f1 _ _ hm; exact absurd hm (Nat.not_lt_zero _)
    | succ m ih =>
      intro i f1 hi hf1 hm
      rw [rbit_l0]
      by_cases h : (i : Int) < w
      · rw [decide_eq_true h, Int.toNat_natCast, hf i (by omega), hg i (by omega)]
        simp only [cond_true]
        rw [show ((i : Int) + 1) = ((i + 1 : Nat) : Int) from rfl]
        have go : ∀ b, z.testBit i = b → Is (rbit_l0 op w f g m (upd f1 i b) ((i + 1 : Nat) : Int)) z := fun b hb => ih (i + 1) _ (by omega) (upd_is hf1 (fun j _ => mod_step hb j)) (by omega)
        rcases ho with ⟨rfl, rfl⟩ | ⟨rfl, rfl⟩ | ⟨rfl, rfl⟩
        · have hz : (x &&& y).testBit i = (x.testBit i && y.testBit i) := Nat.testBit_and ..
          rw [show ((13 : Int) == 13) = true from rfl]
          cases hb : x.testBit i with
          | true => rw [hb] at hz; exact go _ hz
          | false => rw [hb] at hz; exact go _ hz
        · have hz : (x ||| y).testBit i = (x.testBit i || y.testBit i) := Nat.testBit_or ..
          rw [show ((14 : Int) == 13) = false from rfl, show ((14 : Int) == 14) = true from rfl]
          cases hb : x.testBit i with
          | true => rw [hb] at hz; exact go _ hz
          | false => rw [hb] at hz; exact go _ hz
        · have hz : (x ^^^ y).testBit i = (x.testBit i ^^ y.testBit i) := Nat.testBit_xor ..
          rw [show ((15 : Int) == 13) = false from rfl, show ((15 : Int) == 14) = false from rfl, show ((15 : Int) == 15) = true from rfl]
          exact go _ (by rw [hz]; cases x.testBit i <;> cases y.testBit i <;> rfl)
      · rw [decide_eq_false h]
        rw [show i = W by omega, Nat.mod_eq_of_lt hz] at hf1
        exact hf1
  unfold rbit_s
  exact key _ 0 _ (Nat.zero_le _) (by rw [Nat.pow_zero, Nat.mod_one]; exact zero_is) (by omega)
theorem upTimes_lt {W x : Nat} (hx : x < 2 ^ W) (k : Nat) : upTimes W x k < 2 ^ W := by
  rw [upTimes_eq hx]; exact Nat.mod_lt _ (Nat.two_pow_pos _)
theorem rmov_l0_is {op w : Int} {W : Nat} (hw : w = W) (h1 : 1 ≤ W) (hW : W ≤ 64) {f g : Nat → Bool} {x y : Nat} (hg : Is g y) (hy : y < 2 ^ 64) (b : Bool) : ∀ (m i : Nat) (x1 : Nat → Bool), i ≤ min y W → Is x1 (if op = 16 then upTimes W x i else dnTo W x b i) → min y W - i < m → Is (rmov_l0 op w f g m x1 b i) (if op = 16 then upTimes W x (min y W) else dnTo W x b (min y W)) := by
  intro m
  induction m with
  | zero => intro i x1 _ _ hm; exact absurd hm (Nat.not_lt_zero _)
  | succ m ih =>
    intro i x1 hi hx1 hm
    rw [rmov_l0, rfar_is hw hW hg hy]
    by_cases h : (i : Int) < ((min y W : Nat) : Int)
    · rw [decide_eq_true h]
      simp only [cond_true]
      rw [show ((i : Int) + 1) = ((i + 1 : Nat) : Int) from rfl]
      by_cases ho : op = 16
      · rw [if_pos ho] at hx1
        rw [show (op == (16 : Int)) = true by simpa using ho]
        exact ih (i + 1) _ (by omega) (by rw [if_pos ho]; exact rup_is hw h1 hW hx1 false) (by omega)
      · rw [if_neg ho] at hx1
        rw [show (op == (16 : Int)) = false by simpa using ho]
        exact ih (i + 1) _ (by omega) (by rw [if_neg ho]; exact rdn_is hw h1 hW hx1 b) (by omega)
    · rw [decide_eq_false h]
      have e : i = min y W := by omega
      rw [← e]
      exact hx1
theorem rmov_is {op w : Int} {W : Nat} (hw : w = W) (h1 : 1 ≤ W) (hW : W ≤ 64) {f g : Nat → Bool} {x y : Nat} (hf : Is f x) (hg : Is g y) (hy : y < 2 ^ 64) : Is (rmov_s op w f g) (if op = 16 then upTimes W x (min y W) else dnTo W x (op == 18 && x.testBit (W - 1)) (min y W)) := by
  have hfar := rfar_is hw hW hg hy
  unfold rmov_s
  rw [hfar]
  have st : ∀ b, Is f (if op = 16 then upTimes W x 0 else dnTo W x b 0) := fun b => by split <;> exact hf
  cases h : (op == (18 : Int)) with
  | true =>
    simp only [cond_true, Bool.true_and]
    rw [show (w - 1).toNat = W - 1 by omega, hf (W - 1) (by omega)]
    exact rmov_l0_is hw h1 hW hg hy _ _ 0 f (Nat.zero_le _) (st _) (by omega)
  | false =>
    simp only [cond_false, Bool.false_and]
    exact rmov_l0_is hw h1 hW hg hy false _ 0 f (Nat.zero_le _) (st _) (by omega)
theorem rdiv_is {w : Int} {W : Nat} (hw : w = W) (h1 : 1 ≤ W) (hW : W ≤ 64) {f g : Nat → Bool} {x y : Nat} (hf : Is f x) (hg : Is g y) (hx : x < 2 ^ W) (hy : y < 2 ^ W) : Is (rdiv_s w f g).1 (if y = 0 then 2 ^ W - 1 else x / y) ∧ Is (rdiv_s w f g).2 (if y = 0 then x else x % y) := by
  have hp : 2 ^ W ≤ 2 ^ 64 := Nat.pow_le_pow_right (by decide) hW
  unfold rdiv_s
  rw [rnum_is hg (by omega)]
  by_cases hy0 : y = 0
  · rw [if_pos hy0, if_pos hy0, show ((y : Int) == 0) = true by simp [hy0]]
    have := rnot_is hw hW zero_is
    rw [notN_eq (Nat.two_pow_pos W), Nat.sub_zero] at this
    exact ⟨this, hf⟩
  rw [if_neg hy0, if_neg hy0, show ((y : Int) == 0) = false by simp [hy0]]
  have key : ∀ (m k : Nat) (q r : Nat → Bool), k ≤ W → Is q (quoTo x y k) → Is r (resTo x y k) → k < m → Is (rdiv_l0 w f g m q r ((k : Int) - 1)).1 (x / y) ∧ Is (rdiv_l0 w f g m q r ((k : Int) - 1)).2 (x % y) := by
    intro m
    induction m with
    | zero => intro k q r _ _ _ hm; exact absurd hm (Nat.not_lt_zero _)
    | succ m ih =>
      intro k q r hk hq hr hm
      rw [rdiv_l0]
      cases k with
      | zero =>
        rw [decide_eq_false (by omega)]
        rw [(quo_end x y).1] at hq
        rw [(quo_end x y).2] at hr
        exact ⟨hq, hr⟩
      | succ k =>
        have hR : resTo x y (k + 1) < y := Nat.mod_lt _ (by omega)
        rw [show (((k + 1 : Nat) : Int) - 1) = (k : Int) by omega, decide_eq_true (Int.natCast_nonneg k), Int.toNat_natCast, show (w - 1).toNat = W - 1 by omega, hf k (by omega), hr (W - 1) (by omega), top_bit h1 (by omega)]
        simp only [cond_true]
        obtain ⟨full, hfull⟩ : ∃ full, full = resTo x y (k + 1) * 2 + (if x.testBit k = true then 1 else 0) := ⟨_, rfl⟩
        have ds := div_step (show 0 < y by omega) hfull
        have hfb : full = resTo x y (k + 1) * 2 + (x.testBit k).toNat := by rw [hfull]; cases x.testBit k <;> rfl
        have hup : Is (rup_s w r (x.testBit k)) (full % 2 ^ W) := by
          have := rup_is hw h1 hW hr (x.testBit k)
          unfold upN at this
          rwa [← hfb] at this
        have hs := half_split W h1
        have hb2 := Bool.toNat_lt (x.testBit k)
        have hadd : y ≤ full → Is (radd_s w (rup_s w r (x.testBit k)) (rnot_s w g) true) (full - y) := fun hge => by
          have ha := radd_is hw hW hup (rnot_is hw hW hg) true
          have hml : full % 2 ^ W < 2 ^ W := Nat.mod_lt _ (Nat.two_pow_pos W)
          rw [ref_sub hml hy] at ha
          have e : (full % 2 ^ W + (2 ^ W - y)) % 2 ^ W = full - y := by
            by_cases c : full < 2 ^ W
            · rw [Nat.mod_eq_of_lt c, show full + (2 ^ W - y) = (full - y) + 2 ^ W by omega, Nat.add_mod_right, Nat.mod_eq_of_lt (by omega)]
            · have hf2 : full - 2 ^ W < 2 ^ W := by omega
              rw [Nat.mod_eq_sub_mod (show 2 ^ W ≤ full by omega), Nat.mod_eq_of_lt hf2, show full - 2 ^ W + (2 ^ W - y) = full - y by omega, Nat.mod_eq_of_lt (by omega)]
          rwa [e] at ha
        have yes : y ≤ full → Is (rdiv_l0 w f g m (upd q k true) (radd_s w (rup_s w r (x.testBit k)) (rnot_s w g) true) ((k : Int) - 1)).1 (x / y) ∧ Is (rdiv_l0 w f g m (upd q k true) (radd_s w (rup_s w r (x.testBit k)) (rnot_s w g) true) ((k : Int) - 1)).2 (x % y) := fun hge => by
          obtain ⟨d1, d2, d3⟩ := ds.2 hge
          exact ih k _ _ (by omega) (upd_is hq (fun j _ => d3 j)) (by rw [d1]; exact hadd hge) (by omega)
        by_cases ho : 2 ^ (W - 1) ≤ resTo x y (k + 1)
        · rw [decide_eq_true ho]
          exact yes (by omega)
        · rw [decide_eq_false ho]
          have hfl : full < 2 ^ W := by omega
          rw [Nat.mod_eq_of_lt hfl] at hup
          rw [rless_is hw hW hup hg hfl hy]
          by_cases hl : full < y
          · rw [decide_eq_true hl]
            obtain ⟨d1, d2⟩ := ds.1 hl
            exact ih k _ _ (by omega) (by rw [d2]; exact hq) (by rw [d1]; exact hup) (by omega)
          · rw [decide_eq_false hl]
            exact yes (by omega)
  have := key ((((w - 1) : Int) + 1).toNat + 1) W (fun _ => false) (fun _ => false) (Nat.le_refl _) (by rw [(quo_start hx).1]; exact zero_is) (by rw [(quo_start hx).2]; exact zero_is) (by omega)
  subst hw
  exact this
theorem eqA_iff {f g : Nat → Bool} : ∀ (n i : Nat), eqA f g n i = true ↔ ∀ j, i ≤ j → j < i + n → f j = g j := by
  intro n
  induction n with
  | zero => intro i; exact ⟨fun _ j h1 h2 => by omega, fun _ => rfl⟩
  | succ n ih =>
    intro i
    show (f i == g i && eqA f g n (i + 1)) = true ↔ _
    rw [Bool.and_eq_true, beq_iff_eq, ih]
    constructor
    · rintro ⟨h1, h2⟩ j h3 h4
      by_cases e : j = i
      · rw [e]; exact h1
      · exact h2 j (by omega) (by omega)
    · intro h
      exact ⟨h i (Nat.le_refl _) (by omega), fun j h3 h4 => h j (by omega) (by omega)⟩
theorem eqA_is {f g : Nat → Bool} {x y : Nat} (hf : Is f x) (hg : Is g y) (hx : x < 2 ^ 64) (hy : y < 2 ^ 64) : eqA f g 64 0 = decide (x = y) := by
  apply Bool.eq_iff_iff.2
  rw [decide_eq_true_eq, eqA_iff]
  constructor
  · intro h
    apply Nat.eq_of_testBit_eq
    intro j
    by_cases hj : j < 64
    · rw [← hf j hj, ← hg j hj]; exact h j (Nat.zero_le _) (by omega)
    · rw [Nat.testBit_lt_two_pow (Nat.lt_of_lt_of_le hx (Nat.pow_le_pow_right (by decide) (by omega))), Nat.testBit_lt_two_pow (Nat.lt_of_lt_of_le hy (Nat.pow_le_pow_right (by decide) (by omega)))]
  · intro h j _ hj
    rw [hf j (by omega), hg j (by omega), h]
end Go.Proofs.YtahobmjchppciaaDoor.Sx.M5
/- Words: what the program's operations come to, of natural numbers; the document's are the same. -/
open Go Go.Proofs Go.RowKit
namespace Go.Proofs.YtahobmjchppciaaDoor.Sx.M5
set_option linter.unusedVariables false
set_option linter.unusedSimpArgs false
/-- A width, within its ends. -/
def cw (w : Int) : Nat := (max 1 (min w 64)).toNat
theorem cw_range (w : Int) : 1 ≤ cw w ∧ cw w ≤ 64 := by unfold cw; omega
theorem width_eq (w : Int) : width_s w = (cw w : Int) := by unfold width_s cw; omega
theorem rwid_eq (w : Int) : rwid_s w = (cw w : Int) := by
  unfold rwid_s cw
  by_cases h : w < 1
  · rw [decide_eq_true h]; show (1 : Int) = _; omega
  · rw [decide_eq_false h]
    by_cases h2 : w > 64
    · rw [decide_eq_true h2]; show (64 : Int) = _; omega
    · rw [decide_eq_false h2]; show w = _; omega
theorem cw_cw (w : Int) : cw (cw w : Int) = cw w := by have := cw_range w; unfold cw at *; omega
theorem cw_of {W : Nat} (h1 : 1 ≤ W) (h2 : W ≤ 64) : cw (W : Int) = W := by unfold cw; omega
theorem u64_nat (n : Nat) : IntKind.u64.wrap (n : Int) = ((n % 2 ^ 64 : Nat) : Int) := by rw [wrap_u64]; omega
theorem u64_small {n : Int} (h0 : 0 ≤ n) (h1 : n < 18446744073709551616) : IntKind.u64.wrap n = n := by rw [wrap_u64]; omega
theorem and_nat (a b : Nat) (ha : a < 2 ^ 64) (hb : b < 2 ^ 64) : Go.bits .and .u64 (a : Int) (b : Int) = ((a &&& b : Nat) : Int) := by
  have ha' : a % 2 ^ 64 = a := Nat.mod_eq_of_lt ha
  have hb' : b % 2 ^ 64 = b := Nat.mod_eq_of_lt hb
  have hx : a &&& b < 2 ^ 64 := Nat.and_lt_two_pow _ hb
  have e : IntKind.u64.bits = 64 := rfl
  simp only [Go.bits, e, BitVec.ofInt_natCast, BitVec.toNat_and, BitVec.toNat_ofNat, ha', hb']
  exact u64_small (Int.natCast_nonneg _) (by omega)
theorem or_nat (a b : Nat) (ha : a < 2 ^ 64) (hb : b < 2 ^ 64) : Go.bits .or .u64 (a : Int) (b : Int) = ((a ||| b : Nat) : Int) := by
  have ha' : a % 2 ^ 64 = a := Nat.mod_eq_of_lt ha
  have hb' : b % 2 ^ 64 = b := Nat.mod_eq_of_lt hb
  have hx : a ||| b < 2 ^ 64 := Nat.or_lt_two_pow ha hb
  have e : IntKind.u64.bits = 64 := rfl
  simp only [Go.bits, e, BitVec.ofInt_natCast, BitVec.toNat_or, BitVec.toNat_ofNat, ha', hb']
  exact u64_small (Int.natCast_nonneg _) (by omega)
theorem xor_nat (a b : Nat) (ha : a < 2 ^ 64) (hb : b < 2 ^ 64) : Go.bits .xor .u64 (a : Int) (b : Int) = ((a ^^^ b : Nat) : Int) := by
  have ha' : a % 2 ^ 64 = a := Nat.mod_eq_of_lt ha
  have hb' : b % 2 ^ 64 = b := Nat.mod_eq_of_lt hb
  have hx : a ^^^ b < 2 ^ 64 := Nat.xor_lt_two_pow ha hb
  have e : IntKind.u64.bits = 64 := rfl
  simp only [Go.bits, e, BitVec.ofInt_natCast, BitVec.toNat_xor, BitVec.toNat_ofNat, ha', hb']
  exact u64_small (Int.natCast_nonneg _) (by omega)
theorem pow_cast (n : Nat) : ((2 : Int) ^ n) = ((2 ^ n : Nat) : Int) := by simp
theorem shr_nat (a b : Nat) (hb : b ≤ 64) : ((a : Int)).fdiv (2 ^ min b 64) = ((a / 2 ^ b : Nat) : Int) := by
  rw [Nat.min_eq_left hb, pow_cast, Int.fdiv_eq_ediv_of_nonneg _ (Int.natCast_nonneg _)]
  rfl
theorem shl_nat (a b : Nat) (hb : b ≤ 64) : IntKind.u64.wrap ((a : Int) * 2 ^ min b 64) = ((a * 2 ^ b % 2 ^ 64 : Nat) : Int) := by
  rw [Nat.min_eq_left hb, pow_cast, ← Int.natCast_mul, u64_nat]
theorem pow_split (W : Nat) (h : W ≤ 64) : 2 ^ W * 2 ^ (64 - W) = 2 ^ 64 := by rw [← Nat.pow_add, Nat.add_sub_cancel' h]
theorem pow_le64 {W : Nat} (h : W ≤ 64) : 2 ^ W ≤ 2 ^ 64 := Nat.pow_le_pow_right (by decide) h
theorem mask_div (W : Nat) (h : W ≤ 64) : (2 ^ 64 - 1) / 2 ^ (64 - W) = 2 ^ W - 1 := by
  have hp := pow_split W h
  have h1 : 0 < 2 ^ W := Nat.two_pow_pos W
  have h2 : 0 < 2 ^ (64 - W) := Nat.two_pow_pos _
  apply Nat.div_eq_of_lt_le
  · rw [Nat.sub_mul, hp]; omega
  · rw [show 2 ^ W - 1 + 1 = 2 ^ W by omega, hp]; decide
theorem mask_eq (w : Int) : mask_s w = ((2 ^ cw w - 1 : Nat) : Int) := by
  have hr := cw_range w
  unfold mask_s
  rw [width_eq, show (64 - (cw w : Int)).toNat = 64 - cw w by omega]
  have := shr_nat (2 ^ 64 - 1) (64 - cw w) (by omega)
  rw [mask_div _ hr.2] at this
  exact this
theorem cut_eq (w : Int) (x : Nat) (hx : x < 2 ^ 64) : cut_s w (x : Int) = ((x % 2 ^ cw w : Nat) : Int) := by
  have hr := cw_range w
  have hp := pow_le64 hr.2
  have h1 : 0 < 2 ^ cw w := Nat.two_pow_pos _
  unfold cut_s
  rw [mask_eq, and_nat x _ hx (by omega), Nat.and_two_pow_sub_one_eq_mod]
/-- A word as a number with a sign. -/
def signN (W x : Nat) : Int := if 2 ^ (W - 1) ≤ x then (x : Int) - 2 ^ W else x
theorem half_split64 (W : Nat) (h : 1 ≤ W) (h' : W ≤ 64) : 2 ^ (W - 1) * 2 ^ (64 - W) = 2 ^ 63 := by
  rw [← Nat.pow_add, show W - 1 + (64 - W) = 63 by omega]
theorem sign_eq (w : Int) (x : Nat) (hx : x < 2 ^ cw w) : sign_s w (x : Int) = signN (cw w) x := by
  have hr := cw_range w
  have hp := pow_le64 hr.2
  unfold sign_s
  rw [width_eq, show (64 - (cw w : Int)).toNat = 64 - cw w by omega, shl_nat x _ (by omega)]
  generalize hW : cw w = W at *
  have hs := pow_split W hr.2
  have hh := half_split64 W hr.1 hr.2
  have hP : 0 < 2 ^ (64 - W) := Nat.two_pow_pos _
  have hlt : x * 2 ^ (64 - W) < 2 ^ 64 := by rw [← hs]; exact Nat.mul_lt_mul_of_pos_right hx hP
  rw [Nat.mod_eq_of_lt hlt, Nat.min_eq_left (show 64 - W ≤ 64 by omega), Int.fdiv_eq_ediv_of_nonneg _ (by rw [pow_cast]; exact Int.natCast_nonneg _), IntKind.wrap_i64]
  unfold signN
  by_cases c : 2 ^ (W - 1) ≤ x
  · rw [if_pos c]
    have h1 : 2 ^ 63 ≤ x * 2 ^ (64 - W) := by rw [← hh]; exact Nat.mul_le_mul_right _ c
    have e : ((x : Int) - 2 ^ W) * 2 ^ (64 - W) = ((x * 2 ^ (64 - W) : Nat) : Int) - ((2 ^ W * 2 ^ (64 - W) : Nat) : Int) := by
      rw [Int.sub_mul]; simp
    rw [hs] at e
    have h3 : ∀ z : Int, z = ((x : Int) - 2 ^ W) * 2 ^ (64 - W) → z / 2 ^ (64 - W) = (x : Int) - 2 ^ W := fun z hz => by
      rw [hz]; exact Int.mul_ediv_cancel _ (by rw [pow_cast]; omega)
    exact h3 _ (by rw [e]; omega)
  · rw [if_neg c]
    have h1 : x * 2 ^ (64 - W) < 2 ^ 63 := by rw [← hh]; exact Nat.mul_lt_mul_of_pos_right (by omega) hP
    have e : (x : Int) * 2 ^ (64 - W) = ((x * 2 ^ (64 - W) : Nat) : Int) := by simp
    have h3 : ∀ z : Int, z = (x : Int) * 2 ^ (64 - W) → z / 2 ^ (64 - W) = (x : Int) := fun z hz => by
      rw [hz]; exact Int.mul_ediv_cancel _ (by rw [pow_cast]; omega)
    exact h3 _ (by rw [e]; omega)
/-- What an operation of two words of a width answers. -/
def applyN (op : Int) (W x y : Nat) : Nat :=
  if op = 5 then 2 ^ W - 1 - x
  else if op = 9 then (x + (2 ^ W - y)) % 2 ^ W
  else if op = 8 then (x + y) % 2 ^ W
  else if op = 10 then x * y % 2 ^ W
  else if op = 11 then (if y = 0 then 2 ^ W - 1 else x / y)
  else if op = 12 then (if y = 0 then x else x % y)
  else if op = 13 then x &&& y
  else if op = 14 then x ||| y
  else if op = 15 then x ^^^ y
  else if op = 16 then (if W ≤ y then 0 else x * 2 ^ y % 2 ^ W)
  else if op = 17 then (if W ≤ y then 0 else x / 2 ^ y)
  else if op = 18 then sarN W x y
  else if op = 19 then (if x = y then 1 else 0)
  else if op = 21 then (if lessS W x y = true then 1 else 0)
  else if op = 20 then (if x < y then 1 else 0)
  else 0
theorem pow_dvd64 {W : Nat} (h : W ≤ 64) : 2 ^ W ∣ 2 ^ 64 := Nat.pow_dvd_pow 2 h
theorem mod_mod64 {W : Nat} (h : W ≤ 64) (x : Nat) : x % 2 ^ 64 % 2 ^ W = x % 2 ^ W := Nat.mod_mod_of_dvd x (pow_dvd64 h)
theorem not_nat (x n : Nat) (h : x < 2 ^ n) : (2 ^ n - 1) ^^^ x = 2 ^ n - 1 - x := by
  apply Nat.eq_of_testBit_eq
  intro i
  rw [Nat.testBit_xor, show 2 ^ n - 1 - x = 2 ^ n - (x + 1) by omega, Nat.testBit_two_pow_sub_succ h, Nat.testBit_two_pow_sub_one]
  by_cases hi : i < n
  · simp [hi]
  · have : x.testBit i = false := Nat.testBit_lt_two_pow (Nat.lt_of_lt_of_le h (Nat.pow_le_pow_right (by decide) (by omega)))
    simp [hi, this]
theorem all_split {W : Nat} (h : W ≤ 64) (x : Nat) (hx : x ≤ 2 ^ W) : 2 ^ 64 - x = (2 ^ W - x) + 2 ^ W * (2 ^ (64 - W) - 1) := by
  have hp := pow_split W h
  have h2 : 0 < 2 ^ (64 - W) := Nat.two_pow_pos _
  rw [Nat.mul_sub, hp, Nat.mul_one]
  have := pow_le64 h
  omega
theorem half_xor (v x : Nat) (h : x < 2 ^ v) : x ^^^ 2 ^ v = 2 ^ v + x := by
  apply Nat.eq_of_testBit_eq
  intro i
  rw [Nat.testBit_xor, Nat.testBit_two_pow]
  by_cases a : i < v
  · rw [Nat.testBit_two_pow_add_gt a]
    have : ¬ v = i := by omega
    simp [this]
  · by_cases b : i = v
    · subst b
      rw [Nat.testBit_two_pow_add_eq]
      simp
    · have h1 : x.testBit i = false := Nat.testBit_lt_two_pow (Nat.lt_of_lt_of_le h (Nat.pow_le_pow_right (by decide) (by omega)))
      have h2 : (2 ^ v + x).testBit i = false := Nat.testBit_lt_two_pow (Nat.lt_of_lt_of_le (show 2 ^ v + x < 2 ^ (v + 1) by rw [Nat.pow_succ]; omega) (Nat.pow_le_pow_right (by decide) (by omega)))
      have : ¬ v = i := by omega
      simp [h1, h2, this]
theorem top_xor {W x : Nat} (h1 : 1 ≤ W) (h : x < 2 ^ W) : x ^^^ 2 ^ (W - 1) = if 2 ^ (W - 1) ≤ x then x - 2 ^ (W - 1) else 2 ^ (W - 1) + x := by
  have hs := half_split W h1
  split
  · rename_i c
    have e := half_xor (W - 1) (x - 2 ^ (W - 1)) (by omega)
    rw [show 2 ^ (W - 1) + (x - 2 ^ (W - 1)) = x by omega] at e
    rw [← e, Nat.xor_assoc, Nat.xor_self, Nat.xor_zero, e]
  · exact half_xor _ _ (by omega)
theorem less_xor {W x y : Nat} (h1 : 1 ≤ W) (hx : x < 2 ^ W) (hy : y < 2 ^ W) : decide (x ^^^ 2 ^ (W - 1) < y ^^^ 2 ^ (W - 1)) = lessS W x y := by
  have hs := half_split W h1
  rw [top_xor h1 hx, top_xor h1 hy]
  unfold lessS
  by_cases a : 2 ^ (W - 1) ≤ x <;> by_cases b : 2 ^ (W - 1) ≤ y
  · simp only [if_pos a, if_pos b]; congr 1; exact propext ⟨fun h => by omega, fun h => by omega⟩
  · simp only [if_pos a, if_neg b]; exact decide_eq_true (by omega)
  · simp only [if_neg a, if_pos b]; exact decide_eq_false (by omega)
  · simp only [if_neg a, if_neg b]; congr 1; exact propext ⟨fun h => by omega, fun h => by omega⟩
theorem neg_div (m b : Nat) (hb : 0 < b) : (-(m : Int) - 1) / (b : Int) = -((m / b : Nat) : Int) - 1 := by
  have h := Int.negSucc_ediv m (b := (b : Int)) (by omega)
  have e : (m : Int).ediv (b : Int) = ((m / b : Nat) : Int) := rfl
  rw [show (-(m : Int) - 1) = Int.negSucc m by omega, h, e]
  generalize m / b = q
  omega
theorem ite_lt {c : Prop} [Decidable c] {a b n : Nat} (h1 : c → a < n) (h2 : ¬ c → b < n) : (if c then a else b) < n := by
  split
  · exact h1 (by assumption)
  · exact h2 (by assumption)
theorem apply_lt (op : Int) {W x y : Nat} (h1 : 1 ≤ W) (hx : x < 2 ^ W) (hy : y < 2 ^ W) : applyN op W x y < 2 ^ W := by
  have hp : 0 < 2 ^ W := Nat.two_pow_pos W
  have h2 : 2 ≤ 2 ^ W := by have := half_split W h1; have : 0 < 2 ^ (W - 1) := Nat.two_pow_pos _; omega
  have hq : ∀ a b : Nat, a < 2 ^ W → a / b < 2 ^ W := fun a b h => Nat.lt_of_le_of_lt (Nat.div_le_self _ _) h
  have hs : sarN W x y < 2 ^ W := by
    unfold sarN
    refine ite_lt (fun _ => ?_) (fun _ => ite_lt (fun _ => hp) (fun _ => hq _ _ hx))
    exact Nat.lt_of_le_of_lt (Nat.sub_le _ _) (by omega)
  have h1' : ∀ c : Prop, ∀ _ : Decidable c, (if c then 1 else 0) < 2 ^ W := fun c _ => ite_lt (fun _ => by omega) (fun _ => hp)
  unfold applyN
  refine ite_lt (fun _ => by omega) (fun _ => ite_lt (fun _ => Nat.mod_lt _ hp) (fun _ => ite_lt (fun _ => Nat.mod_lt _ hp) (fun _ => ite_lt (fun _ => Nat.mod_lt _ hp) (fun _ => ite_lt (fun _ => ite_lt (fun _ => by omega) (fun _ => hq _ _ hx)) (fun _ => ite_lt (fun _ => ite_lt (fun _ => hx) (fun _ => Nat.lt_of_le_of_lt (Nat.mod_le _ _) hx)) (fun _ => ?_))))))
  refine ite_lt (fun _ => Nat.and_lt_two_pow _ hy) (fun _ => ite_lt (fun _ => Nat.or_lt_two_pow hx hy) (fun _ => ite_lt (fun _ => Nat.xor_lt_two_pow hx hy) (fun _ => ite_lt (fun _ => ite_lt (fun _ => hp) (fun _ => Nat.mod_lt _ hp)) (fun _ => ite_lt (fun _ => ite_lt (fun _ => hp) (fun _ => hq _ _ hx)) (fun _ => ite_lt (fun _ => hs) (fun _ => ?_))))))
  exact ite_lt (fun _ => h1' _ _) (fun _ => ite_lt (fun _ => h1' _ _) (fun _ => ite_lt (fun _ => h1' _ _) (fun _ => hp)))


/-- Which operations there are. -/
theorem op_cases (op : Int) : op = 5 ∨ op = 8 ∨ op = 9 ∨ op = 10 ∨ op = 11 ∨ op = 12 ∨ op = 13 ∨ op = 14 ∨ op = 15 ∨ op = 16 ∨ op = 17 ∨ op = 18 ∨ op = 19 ∨ op = 20 ∨ op = 21 ∨ (op ≠ 5 ∧ op ≠ 8 ∧ op ≠ 9 ∧ op ≠ 10 ∧ op ≠ 11 ∧ op ≠ 12 ∧ op ≠ 13 ∧ op ≠ 14 ∧ op ≠ 15 ∧ op ≠ 16 ∧ op ≠ 17 ∧ op ≠ 18 ∧ op ≠ 19 ∧ op ≠ 20 ∧ op ≠ 21) := by omega
theorem bool_if (c : Prop) [Decidable c] : (decide c).toNat = if c then 1 else 0 := by by_cases h : c <;> simp [h]
theorem bool_if' (b : Bool) : b.toNat = if b = true then 1 else 0 := by cases b <;> rfl
set_option maxRecDepth 100000 in
/-- What the document's operation answers. -/
theorem rapp_eq (op w : Int) (x y : Nat) (hx : x < 2 ^ 64) (hy : y < 2 ^ 64) : rapp_s op w (x : Int) (y : Int) = ((applyN op (cw w) (x % 2 ^ cw w) (y % 2 ^ cw w) : Nat) : Int) := by
  obtain ⟨h1, h2⟩ := cw_range w
  have hw := rwid_eq w
  have hp := pow_le64 h2
  have hpos := Nat.two_pow_pos (cw w)
  have hX := rof_is (x0 := (x : Int)) hw h2 hx rfl
  have hY := rof_is (x0 := (y : Int)) hw h2 hy rfl
  have lX := Nat.mod_lt x hpos
  have lY := Nat.mod_lt y hpos
  have hlt := apply_lt op h1 lX lY
  unfold rapp_s
  generalize rof_s (rwid_s w) (x : Int) = f at hX ⊢
  generalize rof_s (rwid_s w) (y : Int) = g at hY ⊢
  generalize x % 2 ^ cw w = X at *
  generalize y % 2 ^ cw w = Y at *
  have fin : ∀ (k : Nat → Bool), Is k (applyN op (cw w) X Y) → rnum_s k = ((applyN op (cw w) X Y : Nat) : Int) := fun k hk => rnum_is hk (by omega)
  have hdv := rdiv_is hw h1 h2 hX hY lX lY
  rcases op_cases op with rfl | rfl | rfl | rfl | rfl | rfl | rfl | rfl | rfl | rfl | rfl | rfl | rfl | rfl | rfl | ho
  · simp only [Int.reduceBEq, cond_true, cond_false]
    have := rnot_is hw h2 hX
    rw [notN_eq lX] at this
    exact fin _ this
  · simp only [Int.reduceBEq, cond_true, cond_false]
    have := radd_is hw h2 hX hY false
    rw [addN_eq lX lY] at this
    exact fin _ this
  · simp only [Int.reduceBEq, cond_true, cond_false]
    have := radd_is hw h2 hX (rnot_is hw h2 hY) true
    rw [ref_sub lX lY] at this
    exact fin _ this
  · simp only [Int.reduceBEq, cond_true, cond_false]
    have := rmul_is hw h1 h2 hX hY lX
    rw [Nat.mod_eq_of_lt lY] at this
    exact fin _ this
  · simp only [Int.reduceBEq, cond_true, cond_false]
    exact fin _ hdv.1
  · simp only [Int.reduceBEq, cond_true, cond_false]
    exact fin _ hdv.2
  · simp only [Int.reduceBEq, cond_true, cond_false]
    exact fin _ (rbit_is hw h2 hX hY hlt (.inl ⟨rfl, rfl⟩))
  · simp only [Int.reduceBEq, cond_true, cond_false]
    exact fin _ (rbit_is hw h2 hX hY hlt (.inr (.inl ⟨rfl, rfl⟩)))
  · simp only [Int.reduceBEq, cond_true, cond_false]
    exact fin _ (rbit_is hw h2 hX hY hlt (.inr (.inr ⟨rfl, rfl⟩)))
  · simp only [Int.reduceBEq, cond_true, cond_false]
    have := rmov_is (op := 16) hw h1 h2 hX hY (by omega)
    rw [if_pos rfl, upTimes_eq lX, ref_shl lX] at this
    exact fin _ this
  · simp only [Int.reduceBEq, cond_true, cond_false]
    have := rmov_is (op := 17) hw h1 h2 hX hY (by omega)
    rw [if_neg (by decide), show ((17 : Int) == 18) = false from rfl, Bool.false_and, dnTo_false h1 lX, ref_shr lX] at this
    exact fin _ this
  · simp only [Int.reduceBEq, cond_true, cond_false]
    have := rmov_is (op := 18) hw h1 h2 hX hY (by omega)
    rw [if_neg (by decide), show ((18 : Int) == 18) = true from rfl, Bool.true_and] at this
    refine fin _ (this.cong (fun j _ => ?_))
    show (sarN (cw w) X Y).testBit j = _
    rw [sar_bit h1 lX, dnTo_bit h1 lX]
  · simp only [Int.reduceBEq, cond_true, cond_false]
    show rnum_s (rtru_s (eqA f g 64 0)) = _
    rw [eqA_is hX hY (by omega) (by omega)]
    have := rtru_is (decide (X = Y))
    rw [bool_if] at this
    exact fin _ this
  · simp only [Int.reduceBEq, cond_true, cond_false]
    show rnum_s (rtru_s (rless_s (rwid_s w) f g)) = _
    rw [rless_is hw h2 hX hY lX lY]
    have := rtru_is (decide (X < Y))
    rw [bool_if] at this
    exact fin _ this
  · simp only [Int.reduceBEq, cond_true, cond_false]
    have hl := less_ref h1 lX lY
    have key : ∀ b : Bool, b = lessS (cw w) X Y → rnum_s (rtru_s b) = ((applyN 21 (cw w) X Y : Nat) : Int) := fun b hb => by
      have := rtru_is b
      rw [bool_if', hb] at this
      exact fin _ (hb ▸ this)
    show (bif !((f ((rwid_s w - 1).toNat)) == (g ((rwid_s w - 1).toNat))) then (rnum_s (rtru_s (f ((rwid_s w - 1).toNat)))) else (rnum_s (rtru_s (rless_s (rwid_s w) f g)))) = _
    rw [show (rwid_s w - 1).toNat = cw w - 1 by omega, hX _ (by omega), hY _ (by omega), rless_is hw h2 hX hY lX lY]
    by_cases c : X.testBit (cw w - 1) = Y.testBit (cw w - 1)
    · rw [if_pos c] at hl
      rw [c, beq_self_eq_true]
      exact key _ hl.symm
    · rw [if_neg c] at hl
      rw [beq_eq_false_iff_ne.2 c]
      exact key _ hl.symm
  · obtain ⟨o5, o8, o9, o10, o11, o12, o13, o14, o15, o16, o17, o18, o19, o20, o21⟩ := ho
    have b : ∀ k : Int, op ≠ k → (op == k) = false := fun k h => by simpa using h
    simp only [b _ o5, b _ o8, b _ o9, b _ o10, b _ o11, b _ o12, b _ o13, b _ o14, b _ o15, b _ o16, b _ o17, b _ o18, b _ o19, b _ o20, b _ o21, cond_false]
    unfold applyN
    simp only [if_neg o5, if_neg o8, if_neg o9, if_neg o10, if_neg o11, if_neg o12, if_neg o13, if_neg o14, if_neg o15, if_neg o16, if_neg o17, if_neg o18, if_neg o19, if_neg o20, if_neg o21]
    rfl
end Go.Proofs.YtahobmjchppciaaDoor.Sx.M5
/- Words: the program's operations come to the same as the document's. -/
open Go Go.Proofs Go.RowKit
namespace Go.Proofs.YtahobmjchppciaaDoor.Sx.M5
set_option linter.unusedVariables false
set_option linter.unusedSimpArgs false
theorem parts_eq {W x y : Nat} (h1 : 1 ≤ W) (h2 : W ≤ 64) (hx : x < 2 ^ W) : parts_s (W : Int) (x : Int) (y : Int) = (((if y = 0 then 2 ^ W - 1 else x / y : Nat) : Int), ((if y = 0 then x else x % y : Nat) : Int)) := by
  have hp := pow_le64 h2
  unfold parts_s
  rw [mask_eq, cw_of h1 h2]
  by_cases c : y = 0
  · subst c; simp
  · have hy : ((y : Int) == 0) = false := by simp [c]
    have hd : x / y ≤ x := Nat.div_le_self _ _
    rw [hy, if_neg c, if_neg c]
    simp only [cond_false]
    have e1 : Int.tdiv (x : Int) (y : Int) = ((x / y : Nat) : Int) := rfl
    have e2 : Int.tmod (x : Int) (y : Int) = ((x % y : Nat) : Int) := rfl
    rw [e1, e2, u64_small (Int.natCast_nonneg _) (by generalize x / y = q at hd; omega)]
theorem sar_nat {W x y : Nat} (h1 : 1 ≤ W) (h2 : W ≤ 64) (hx : x < 2 ^ W) : ∃ n : Nat, n < 2 ^ 64 ∧ n % 2 ^ W = sarN W x y ∧ shift3_s (W : Int) (y : Int) (IntKind.u64.wrap ((signN W x).fdiv (2 ^ 63))) (signN W x) = (n : Int) := by
  have hp := pow_le64 h2
  have hpos : 0 < 2 ^ W := Nat.two_pow_pos W
  have hh := half_split W h1
  have hv : (2 ^ (W - 1) : Nat) ≤ 2 ^ 63 := Nat.pow_le_pow_right (by decide) (by omega)
  have hw : IntKind.u64.wrap (W : Int) = (W : Int) := u64_small (by omega) (by omega)
  have hcast : ((2 ^ W : Nat) : Int) = (2 : Int) ^ W := by simp
  have f63 : ∀ z : Int, z.fdiv (2 ^ 63) = z / 9223372036854775808 := fun z => Int.fdiv_eq_ediv_of_nonneg _ (by decide)
  unfold shift3_s move3_s sarN signN
  rw [hw]
  by_cases c : 2 ^ (W - 1) ≤ x
  · simp only [if_pos c]
    by_cases cy : W ≤ y
    · rw [decide_eq_true (show (y : Int) ≥ W by omega), if_pos cy]
      refine ⟨2 ^ 64 - 1, by decide, ?_, ?_⟩
      · rw [all_split h2 1 (by omega), Nat.add_mul_mod_self_left, Nat.mod_eq_of_lt (by omega)]; omega
      · rw [f63, wrap_u64, ← hcast]; show _ % _ = _; omega
    · rw [decide_eq_false (show ¬ (y : Int) ≥ W by omega), if_neg cy]
      have hd : (2 ^ W - 1 - x) / 2 ^ y ≤ 2 ^ W - 1 - x := Nat.div_le_self _ _
      have e : ((x : Int) - 2 ^ W).fdiv (2 ^ min ((y : Int).toNat) 64) = -(((2 ^ W - 1 - x) / 2 ^ y : Nat) : Int) - 1 := by
        rw [Int.toNat_natCast, Nat.min_eq_left (show y ≤ 64 by omega), pow_cast y, Int.fdiv_eq_ediv_of_nonneg _ (Int.natCast_nonneg _)]
        have := neg_div (2 ^ W - 1 - x) (2 ^ y) (Nat.two_pow_pos y)
        rw [show ((x : Int) - 2 ^ W) = -((2 ^ W - 1 - x : Nat) : Int) - 1 by rw [← hcast]; omega]
        exact this
      simp only [cond_false]
      rw [e]
      generalize (2 ^ W - 1 - x) / 2 ^ y = q at hd e ⊢
      refine ⟨2 ^ 64 - (q + 1), by omega, ?_, ?_⟩
      · rw [all_split h2 _ (by omega), Nat.add_mul_mod_self_left, Nat.mod_eq_of_lt (by omega)]; omega
      · rw [wrap_u64]; omega
  · simp only [if_neg c]
    by_cases cy : W ≤ y
    · rw [decide_eq_true (show (y : Int) ≥ W by omega), if_pos cy]
      refine ⟨0, by decide, Nat.zero_mod _, ?_⟩
      rw [f63, wrap_u64]; show _ % _ = _; omega
    · rw [decide_eq_false (show ¬ (y : Int) ≥ W by omega), if_neg cy]
      have hd : x / 2 ^ y ≤ x := Nat.div_le_self _ _
      refine ⟨x / 2 ^ y, by generalize x / 2 ^ y = q at hd; omega, Nat.mod_eq_of_lt (by generalize x / 2 ^ y = q at hd; omega), ?_⟩
      simp only [cond_false]
      rw [Int.toNat_natCast, shr_nat x y (by omega), u64_small (Int.natCast_nonneg _) (by generalize x / 2 ^ y = q at hd; omega)]
/-- What the program's operation answers. -/
theorem apply1_eq (op w : Int) (x y : Nat) (hx : x < 2 ^ 64) (hy : y < 2 ^ 64) : apply1_s op w (x : Int) (y : Int) = ((applyN op (cw w) (x % 2 ^ cw w) (y % 2 ^ cw w) : Nat) : Int) := by
  obtain ⟨h1, h2⟩ := cw_range w
  have hp := pow_le64 h2
  have hpos := Nat.two_pow_pos (cw w)
  have lX := Nat.mod_lt x hpos
  have lY := Nat.mod_lt y hpos
  have hlt := apply_lt op h1 lX lY
  have cX : cut_s (width_s w) (x : Int) = ((x % 2 ^ cw w : Nat) : Int) := by rw [width_eq, cut_eq _ x hx, cw_cw]
  have cY : cut_s (width_s w) (y : Int) = ((y % 2 ^ cw w : Nat) : Int) := by rw [width_eq, cut_eq _ y hy, cw_cw]
  unfold apply1_s
  rw [cX, cY, width_eq]
  generalize x % 2 ^ cw w = X at *
  generalize y % 2 ^ cw w = Y at *
  have cC := cw_cw w
  have hsg := sign_eq (cw w : Int) X (by rw [cC]; exact lX)
  rw [cC] at hsg
  generalize hW : cw w = W at *
  have fin : ∀ (e : Int) (n : Nat), n < 2 ^ 64 → e = n → n % 2 ^ W = applyN op W X Y → cut_s (W : Int) e = ((applyN op W X Y : Nat) : Int) := fun e n hn he hm => by
    rw [he, cut_eq _ n hn, cC, hm]
  have small : applyN op W X Y % 2 ^ W = applyN op W X Y := Nat.mod_eq_of_lt hlt
  have fin' : ∀ (e : Int), e = ((applyN op W X Y : Nat) : Int) → cut_s (W : Int) e = ((applyN op W X Y : Nat) : Int) := fun e he => fin e _ (by omega) he small
  have hu : IntKind.u64.wrap (W : Int) = (W : Int) := u64_small (by omega) (by omega)
  have hpt := parts_eq h1 h2 lX (y := Y)
  have hX64 : X < 2 ^ 64 := by omega
  have hY64 : Y < 2 ^ 64 := by omega
  rcases op_cases op with rfl | rfl | rfl | rfl | rfl | rfl | rfl | rfl | rfl | rfl | rfl | rfl | rfl | rfl | rfl | ho
  · simp only [Int.reduceBEq, cond_true, cond_false, applyN, if_true, Int.reduceEq, if_false] at *
    refine fin _ (2 ^ 64 - 1 - X) (by omega) ?_ ?_
    · have := xor_nat (2 ^ 64 - 1) X (by decide) hX64
      rw [not_nat X 64 hX64] at this
      exact this
    · rw [show 2 ^ 64 - 1 - X = 2 ^ 64 - (X + 1) by omega, all_split h2 (X + 1) (by omega), Nat.add_mul_mod_self_left, Nat.mod_eq_of_lt (by omega)]
      omega
  · simp only [Int.reduceBEq, cond_true, cond_false, applyN, if_true, Int.reduceEq, if_false] at *
    refine fin _ ((X + Y) % 2 ^ 64) (Nat.mod_lt _ (by decide)) ?_ (mod_mod64 h2 _)
    rw [← Int.natCast_add, u64_nat]
  · simp only [Int.reduceBEq, cond_true, cond_false, applyN, if_true, Int.reduceEq, if_false] at *
    refine fin _ ((X + (2 ^ 64 - Y)) % 2 ^ 64) (Nat.mod_lt _ (by decide)) ?_ ?_
    · rw [wrap_u64, wrap_u64]; omega
    · rw [mod_mod64 h2, all_split h2 Y (by omega), ← Nat.add_assoc, Nat.add_mul_mod_self_left]
  · simp only [Int.reduceBEq, cond_true, cond_false, applyN, if_true, Int.reduceEq, if_false] at *
    refine fin _ (X * Y % 2 ^ 64) (Nat.mod_lt _ (by decide)) ?_ (mod_mod64 h2 _)
    rw [← Int.natCast_mul, u64_nat]
  · simp only [Int.reduceBEq, cond_true, cond_false, applyN, if_true, Int.reduceEq, if_false] at *
    rw [hpt]
    exact fin' _ rfl
  · simp only [Int.reduceBEq, cond_true, cond_false, applyN, if_true, Int.reduceEq, if_false] at *
    rw [hpt]
    exact fin' _ rfl
  · simp only [Int.reduceBEq, cond_true, cond_false, applyN, if_true, Int.reduceEq, if_false] at *
    exact fin' _ (and_nat X Y hX64 hY64)
  · simp only [Int.reduceBEq, cond_true, cond_false, applyN, if_true, Int.reduceEq, if_false] at *
    exact fin' _ (or_nat X Y hX64 hY64)
  · simp only [Int.reduceBEq, cond_true, cond_false, applyN, if_true, Int.reduceEq, if_false] at *
    exact fin' _ (xor_nat X Y hX64 hY64)
  · simp only [Int.reduceBEq, cond_true, cond_false, applyN, if_true, Int.reduceEq, if_false] at *
    unfold shift1_s move1_s
    rw [hu]
    by_cases c : W ≤ Y
    · rw [decide_eq_true (show (Y : Int) ≥ W by omega)]
      refine fin _ 0 (by decide) rfl ?_
      rw [if_pos c, Nat.zero_mod]
    · rw [decide_eq_false (show ¬ (Y : Int) ≥ W by omega)]
      simp only [cond_false]
      refine fin _ (X * 2 ^ Y % 2 ^ 64) (Nat.mod_lt _ (by decide)) ?_ ?_
      · rw [Int.toNat_natCast, shl_nat X Y (by omega)]
      · rw [if_neg c, mod_mod64 h2]
  · simp only [Int.reduceBEq, cond_true, cond_false, applyN, if_true, Int.reduceEq, if_false] at *
    unfold shift2_s move2_s
    rw [hu]
    by_cases c : W ≤ Y
    · rw [decide_eq_true (show (Y : Int) ≥ W by omega)]
      refine fin' _ ?_
      rw [if_pos c]; rfl
    · rw [decide_eq_false (show ¬ (Y : Int) ≥ W by omega)]
      refine fin' _ ?_
      rw [if_neg c]
      show (X : Int).fdiv _ = _
      rw [Int.toNat_natCast, shr_nat X Y (by omega)]
  · simp only [Int.reduceBEq, cond_true, cond_false, applyN, if_true, Int.reduceEq, if_false] at *
    rw [hsg]
    obtain ⟨n, n1, n2, n3⟩ := sar_nat (y := Y) h1 h2 lX
    exact fin _ n n1 n3 n2
  · simp only [Int.reduceBEq, cond_true, cond_false, applyN, if_true, Int.reduceEq, if_false] at *
    refine fin' _ ?_
    unfold flag_s
    by_cases c : X = Y
    · subst c; simp
    · have : ((X : Int) == (Y : Int)) = false := beq_eq_false_iff_ne.2 (by omega)
      rw [this, if_neg c]; rfl
  · simp only [Int.reduceBEq, cond_true, cond_false, applyN, if_true, Int.reduceEq, if_false] at *
    refine fin' _ ?_
    unfold flag_s
    by_cases c : X < Y
    · rw [decide_eq_true (show (X : Int) < Y by omega), if_pos c]; rfl
    · rw [decide_eq_false (show ¬ (X : Int) < Y by omega), if_neg c]; rfl
  · simp only [Int.reduceBEq, cond_true, cond_false, applyN, if_true, Int.reduceEq, if_false] at *
    refine fin' _ ?_
    have hv : (2 ^ (W - 1) : Nat) ≤ 2 ^ 63 := Nat.pow_le_pow_right (by decide) (by omega)
    have s1 : IntKind.u64.wrap (1 * 2 ^ min (((W : Int) - 1).toNat) 64) = ((2 ^ (W - 1) : Nat) : Int) := by
      have := shl_nat 1 (W - 1) (by omega)
      rw [Nat.one_mul, Nat.mod_eq_of_lt (by omega)] at this
      rw [show ((W : Int) - 1).toNat = W - 1 by omega]
      exact this
    rw [s1, xor_nat X _ hX64 (by omega), xor_nat Y _ hY64 (by omega)]
    have e3 : decide (((X ^^^ 2 ^ (W - 1) : Nat) : Int) < ((Y ^^^ 2 ^ (W - 1) : Nat) : Int)) = lessS W X Y := by
      rw [← less_xor h1 lX lY]
      exact decide_eq_decide.2 ⟨fun h => by omega, fun h => by omega⟩
    rw [e3]
    unfold flag_s
    cases lessS W X Y <;> rfl
  · obtain ⟨o5, o8, o9, o10, o11, o12, o13, o14, o15, o16, o17, o18, o19, o20, o21⟩ := ho
    have b : ∀ k : Int, op ≠ k → (op == k) = false := fun k h => by simpa using h
    simp only [b _ o5, b _ o8, b _ o9, b _ o10, b _ o11, b _ o12, b _ o13, b _ o14, b _ o15, b _ o16, b _ o17, b _ o18, b _ o19, b _ o20, b _ o21, cond_false]
    refine fin' _ ?_
    unfold applyN
    simp only [if_neg o5, if_neg o8, if_neg o9, if_neg o10, if_neg o11, if_neg o12, if_neg o13, if_neg o14, if_neg o15, if_neg o16, if_neg o17, if_neg o18, if_neg o19, if_neg o20, if_neg o21]
    rfl
/-- An operation of the program and the document's, of two words. -/
theorem word_same (op w : Int) {x y : Int} (hx : 0 ≤ x ∧ x < 18446744073709551616) (hy : 0 ≤ y ∧ y < 18446744073709551616) : apply1_s op w x y = rapp_s op w x y := by
  have h1 := apply1_eq op w x.toNat y.toNat (by omega) (by omega)
  have h2 := rapp_eq op w x.toNat y.toNat (by omega) (by omega)
  rw [Int.toNat_of_nonneg hx.1, Int.toNat_of_nonneg hy.1] at h1 h2
  rw [h1, h2]
end Go.Proofs.YtahobmjchppciaaDoor.Sx.M5
/- Known bits of natural numbers: what an operation's bits fit. -/
open Go Go.Proofs Go.RowKit
namespace Go.Proofs.YtahobmjchppciaaDoor.Sx.M5
set_option linter.unusedVariables false
set_option linter.unusedSimpArgs false
set_option linter.unusedSimpArgs false
namespace H

def KZ (x : Nat × Nat) : Int × Int := ((x.1 : Int), (x.2 : Int))
/-- Known bits, or nothing. -/
def rightK (W : Nat) (b : Nat × Nat) : Nat × Nat := if b.1 % 2 ^ W &&& b.2 % 2 ^ W = 0 then (b.1 % 2 ^ W, b.2 % 2 ^ W) else (0, 0)
def OkK (W : Nat) (b : Nat × Nat) : Prop := b.1 < 2 ^ W ∧ b.2 < 2 ^ W ∧ b.1 &&& b.2 = 0
/-- Has a word these bits? -/
def Fits (b : Nat × Nat) (x : Nat) : Prop := ∀ i, (b.1.testBit i = true → x.testBit i = false) ∧ (b.2.testBit i = true → x.testBit i = true)
theorem right_okK (W : Nat) (b : Nat × Nat) : OkK W (rightK W b) := by
  have hp : 0 < 2 ^ W := Nat.pow_pos (by decide)
  unfold rightK OkK
  split
  · exact ⟨Nat.mod_lt _ hp, Nat.mod_lt _ hp, by assumption⟩
  · exact ⟨hp, hp, rfl⟩
theorem right_ofK {W : Nat} {b : Nat × Nat} (h : OkK W b) : rightK W b = b := by
  unfold rightK
  rw [Nat.mod_eq_of_lt h.1, Nat.mod_eq_of_lt h.2.1, if_pos h.2.2]
theorem ok_lt64 {W : Nat} (hW : W ≤ 64) {b : Nat × Nat} (h : OkK W b) : b.1 < 2 ^ 64 ∧ b.2 < 2 ^ 64 := by
  have := pow_le64 hW
  exact ⟨Nat.lt_of_lt_of_le h.1 this, Nat.lt_of_lt_of_le h.2.1 this⟩
theorem and0_iff (a b : Nat) : a &&& b = 0 ↔ ∀ i, a.testBit i = true → b.testBit i = false := by
  constructor
  · intro h i ha
    have := congrArg (fun n => Nat.testBit n i) h
    simp only [Nat.testBit_and, ha, Bool.true_and, Nat.zero_testBit] at this
    exact this
  · intro h
    apply Nat.eq_of_testBit_eq
    intro i
    rw [Nat.testBit_and, Nat.zero_testBit]
    cases ha : a.testBit i
    · rfl
    · rw [h i ha]; rfl
theorem bit_lt {a W i : Nat} (h : a < 2 ^ W) (ha : a.testBit i = true) : i < W := by
  rcases Nat.lt_or_ge i W with c | c
  · exact c
  · have := Nat.testBit_lt_two_pow (Nat.lt_of_lt_of_le h (Nat.pow_le_pow_right (by decide) c))
    rw [this] at ha; cases ha
theorem andNot0_iff (a x : Nat) (ha : a < 2 ^ 64) (hx : x < 2 ^ 64) : a &&& (2 ^ 64 - 1 - x) = 0 ↔ ∀ i, a.testBit i = true → x.testBit i = true := by
  rw [and0_iff]
  have e : 2 ^ 64 - 1 - x = 2 ^ 64 - (x + 1) := by omega
  constructor
  · intro h i hi
    have := h i hi
    rw [e, Nat.testBit_two_pow_sub_succ hx, decide_eq_true (bit_lt ha hi), Bool.true_and] at this
    simpa using this
  · intro h i hi
    rw [e, Nat.testBit_two_pow_sub_succ hx, h i hi]
    simp
theorem fits_iff {b : Nat × Nat} {x : Nat} (h : b.2 < 2 ^ 64) (hx : x < 2 ^ 64) : (b.2 &&& (2 ^ 64 - 1 - x) = 0 ∧ b.1 &&& x = 0) ↔ Fits b x := by
  rw [andNot0_iff _ _ h hx, and0_iff]
  exact ⟨fun q i => ⟨q.2 i, q.1 i⟩, fun q => ⟨fun i => (q i).2, fun i => (q i).1⟩⟩
/-- Only the bits below the width count. -/
theorem fits_mod {W : Nat} {b : Nat × Nat} (h : OkK W b) (x : Nat) : Fits b (x % 2 ^ W) ↔ Fits b x := by
  constructor
  · intro q i
    refine ⟨fun hi => ?_, fun hi => ?_⟩
    · have := (q i).1 hi; rw [Nat.testBit_mod_two_pow, decide_eq_true (bit_lt h.1 hi), Bool.true_and] at this; exact this
    · have := (q i).2 hi; rw [Nat.testBit_mod_two_pow, decide_eq_true (bit_lt h.2.1 hi), Bool.true_and] at this; exact this
  · intro q i
    refine ⟨fun hi => ?_, fun hi => ?_⟩
    · rw [Nat.testBit_mod_two_pow, (q i).1 hi, Bool.and_false]
    · rw [Nat.testBit_mod_two_pow, (q i).2 hi, decide_eq_true (bit_lt h.2.1 hi)]; rfl
/-- A word's bits. -/
def ofK (W x : Nat) : Nat × Nat := (2 ^ W - 1 - x % 2 ^ W, x % 2 ^ W)
theorem mask_xor {W x : Nat} (h : x < 2 ^ W) : x ^^^ (2 ^ W - 1) = 2 ^ W - 1 - x := by
  rw [Nat.xor_comm]; exact not_nat x W h
theorem of_bits {W x i : Nat} (hx : x < 2 ^ W) : (2 ^ W - 1 - x).testBit i = (decide (i < W) && !x.testBit i) := by
  rw [show 2 ^ W - 1 - x = 2 ^ W - (x + 1) by omega, Nat.testBit_two_pow_sub_succ hx]
theorem of_okK (W x : Nat) : OkK W (ofK W x) := by
  have pp : 0 < 2 ^ W := Nat.pow_pos (by decide)
  have l1 := Nat.mod_lt x pp
  refine ⟨by unfold ofK; simp only; omega, l1, ?_⟩
  rw [and0_iff]
  intro i hi
  unfold ofK at hi ⊢
  simp only at hi ⊢
  rw [of_bits l1] at hi
  cases c : (x % 2 ^ W).testBit i
  · rfl
  · rw [c] at hi; simp at hi
theorem of_fits {W x y : Nat} (hx : x < 2 ^ W) (hy : y < 2 ^ W) : Fits (ofK W x) y ↔ y = x := by
  unfold Fits ofK
  rw [Nat.mod_eq_of_lt hx]
  constructor
  · intro q
    apply Nat.eq_of_testBit_eq
    intro i
    cases c : x.testBit i
    · rcases Nat.lt_or_ge i W with d | d
      · exact (q i).1 (by simp only; rw [of_bits hx, c, decide_eq_true d]; rfl)
      · exact Nat.testBit_lt_two_pow (Nat.lt_of_lt_of_le hy (Nat.pow_le_pow_right (by decide) d))
    · exact (q i).2 c
  · rintro rfl i
    refine ⟨fun h => ?_, fun h => h⟩
    simp only at h
    rw [of_bits hx] at h
    cases c : y.testBit i
    · rfl
    · rw [c] at h; simp at h
def hasK (W : Nat) (b : Nat × Nat) (x : Nat) : Bool := decide ((rightK W b).2 &&& (2 ^ 64 - 1 - x) = 0 ∧ (rightK W b).1 &&& x = 0)
theorem hasK_iff {W : Nat} (hW : W ≤ 64) (b : Nat × Nat) {x : Nat} (hx : x < 2 ^ 64) : hasK W b x = true ↔ Fits (rightK W b) x := by
  unfold hasK
  rw [decide_eq_true_eq]
  exact fits_iff (ok_lt64 hW (right_okK W b)).2 hx
def joinK (W : Nat) (x y : Nat × Nat) : Nat × Nat := ((rightK W x).1 &&& (rightK W y).1, (rightK W x).2 &&& (rightK W y).2)
theorem join_okK (W : Nat) (x y : Nat × Nat) : OkK W (joinK W x y) := by
  have hx := right_okK W x
  have hy := right_okK W y
  unfold joinK
  refine ⟨Nat.lt_of_le_of_lt Nat.and_le_left hx.1, Nat.lt_of_le_of_lt Nat.and_le_left hx.2.1, ?_⟩
  rw [and0_iff]
  intro i hi
  simp only [Nat.testBit_and, Bool.and_eq_true] at hi
  have := (and0_iff _ _).1 hx.2.2 i hi.1
  simp only [Nat.testBit_and, this, Bool.false_and]
/-- Of less known. -/
def Sub (x y : Nat × Nat) : Prop := ∀ i, (x.1.testBit i = true → y.1.testBit i = true) ∧ (x.2.testBit i = true → y.2.testBit i = true)
theorem join_sub (W : Nat) (x y : Nat × Nat) : Sub (joinK W x y) (rightK W x) ∧ Sub (joinK W x y) (rightK W y) := by
  unfold joinK Sub
  refine ⟨fun i => ?_, fun i => ?_⟩ <;> simp only [Nat.testBit_and, Bool.and_eq_true]
  · exact ⟨fun h => h.1, fun h => h.1⟩
  · exact ⟨fun h => h.2, fun h => h.2⟩
theorem fits_sub {x y : Nat × Nat} (h : Sub x y) {a : Nat} (f : Fits y a) : Fits x a := fun i => ⟨fun hi => (f i).1 ((h i).1 hi), fun hi => (f i).2 ((h i).2 hi)⟩
def meetK (W : Nat) (x y : Nat × Nat) : (Nat × Nat) × Bool := if ((rightK W x).1 ||| (rightK W y).1) &&& ((rightK W x).2 ||| (rightK W y).2) = 0 then (((rightK W x).1 ||| (rightK W y).1, (rightK W x).2 ||| (rightK W y).2), true) else ((0, 0), false)

/-- A word, if all of it is known. -/
def numK (W : Nat) (b : Nat × Nat) : Nat × Bool := if (rightK W b).1 = 2 ^ W - 1 - (rightK W b).2 then ((rightK W b).2, true) else (0, false)
/-- How many of the lowest bits are known. -/
def lowK (b : Nat × Nat) : Nat := Lib.ctz 64 ((2 ^ 64 - 1) ^^^ (b.1 ||| b.2))
theorem low_spec {b : Nat × Nat} (h1 : b.1 < 2 ^ 64) (h2 : b.2 < 2 ^ 64) : (∀ i, i < lowK b → (b.1 ||| b.2).testBit i = true) ∧ (lowK b < 64 → (b.1 ||| b.2).testBit (lowK b) = false) := by
  have hy := Nat.or_lt_two_pow h1 h2
  unfold lowK
  rw [not_nat _ _ hy]
  generalize b.1 ||| b.2 = y at *
  have bits : ∀ i, (2 ^ 64 - 1 - y).testBit i = (decide (i < 64) && !y.testBit i) := fun i => of_bits hy
  unfold Lib.ctz
  by_cases c : 2 ^ 64 - 1 - y = 0
  · rw [if_pos c]
    refine ⟨fun i hi => ?_, fun h => absurd h (Nat.lt_irrefl _)⟩
    have := bits i
    rw [c, Nat.zero_testBit, decide_eq_true hi, Bool.true_and] at this
    simpa using this.symm
  · rw [if_neg c]
    obtain ⟨m, e, hk⟩ := Lib.ctzFrom_spec 64 (2 ^ 64 - 1 - y) (by omega) (by omega)
    generalize Lib.ctzFrom 64 (2 ^ 64 - 1 - y) = k at *
    refine ⟨fun i hi => ?_, fun _ => ?_⟩
    · have := bits i
      rw [e, Nat.testBit_two_pow_mul, decide_eq_false (by omega), Bool.false_and, decide_eq_true (show i < 64 by omega), Bool.true_and] at this
      simpa using this.symm
    · have := bits k
      rw [e, Nat.testBit_two_pow_mul, decide_eq_true (Nat.le_refl _), Bool.true_and, Nat.sub_self, decide_eq_true hk, Bool.true_and] at this
      have o : (2 * m + 1).testBit 0 = true := by simp [Nat.testBit_zero]
      rw [o] at this
      simpa using this.symm
theorem low_mono {x y : Nat × Nat} (h1 : x.1 < 2 ^ 64) (h2 : x.2 < 2 ^ 64) (h3 : y.1 < 2 ^ 64) (h4 : y.2 < 2 ^ 64) (h : Sub x y) (hl : lowK x ≤ 64) : lowK x ≤ lowK y ∨ 64 ≤ lowK y := by
  rcases Nat.lt_or_ge (lowK y) (lowK x) with c | c
  · rcases Nat.lt_or_ge (lowK y) 64 with d | d
    · have e := (low_spec h1 h2).1 _ c
      have f := (low_spec h3 h4).2 d
      simp only [Nat.testBit_or, Bool.or_eq_true, Bool.or_eq_false_iff] at e f
      rcases e with e | e
      · rw [(h _).1 e] at f; cases f.1
      · rw [(h _).2 e] at f; cases f.2
    · exact .inr d
  · exact .inl c
/-- The lowest bits. -/
def sumsK (op : Int) (W : Nat) (x y : Nat × Nat) : Nat × Nat :=
  if min (min (lowK x) (lowK y)) W = 0 then (0, 0) else ofK (min (min (lowK x) (lowK y)) W) (applyN op (min (min (lowK x) (lowK y)) W) (x.2 % 2 ^ min (min (lowK x) (lowK y)) W) (y.2 % 2 ^ min (min (lowK x) (lowK y)) W))
/-- The bits that come in from above. -/
def inK (W s : Nat) : Nat := (2 ^ W - 1) &&& (2 ^ 64 - 1 - (2 ^ W - 1) / 2 ^ s)
def downK (W : Nat) (b : Nat × Nat) (s : Nat) : Nat × Nat := (b.1 / 2 ^ s ||| inK W s, b.2 / 2 ^ s)
def upK (W : Nat) (b : Nat × Nat) (s : Nat) : Nat × Nat := rightK W (b.1 * 2 ^ s % 2 ^ 64 ||| (2 ^ s - 1), b.2 * 2 ^ s % 2 ^ 64)
def signK (W : Nat) (b : Nat × Nat) (s : Nat) : Nat × Nat :=
  if b.1 &&& 2 ^ (W - 1) = 0 then (if b.2 &&& 2 ^ (W - 1) = 0 then (b.1 / 2 ^ s, b.2 / 2 ^ s) else (b.1 / 2 ^ s, b.2 / 2 ^ s ||| inK W s)) else (b.1 / 2 ^ s ||| inK W s, b.2 / 2 ^ s)
theorem div_lt64 {a s : Nat} (h : a < 2 ^ 64) : a / 2 ^ s < 2 ^ 64 := Nat.lt_of_le_of_lt (Nat.div_le_self _ _) h
theorem in_lt64 {W : Nat} (hW : W ≤ 64) (s : Nat) : inK W s < 2 ^ 64 := by
  have hp := pow_le64 hW
  have pp : 0 < 2 ^ W := Nat.pow_pos (by decide)
  exact Nat.lt_of_le_of_lt Nat.and_le_left (by omega)
/-- A shift by what is known. -/
def movedK (op : Int) (W : Nat) (x y : Nat × Nat) : Nat × Nat :=
  if (numK W y).2 = false then (0, 0)
  else if op = 18 then (if W ≤ (numK W y).1 then signK W x (W - 1) else signK W x (numK W y).1)
  else if W ≤ (numK W y).1 then ofK W 0
  else if op = 16 then upK W x (numK W y).1 else downK W x (numK W y).1

def isOpK (op : Int) : Prop := 5 ≤ op ∧ op ≤ 21 ∧ op ≠ 6 ∧ op ≠ 7
instance (op : Int) : Decidable (isOpK op) := by unfold isOpK; infer_instance
/-- The width of an answer. -/
def ansK (op : Int) (W : Nat) : Nat := if op ≥ 19 then 1 else W
def allK (b : Nat × Nat) : Nat := b.1 ||| b.2
def tableK (op : Int) (W : Nat) (x y : Nat × Nat) : Nat × Nat :=
  if op = 5 then (x.2, x.1)
  else if op = 13 then (x.1 ||| y.1, x.2 &&& y.2)
  else if op = 14 then (x.1 &&& y.1, x.2 ||| y.2)
  else if op = 15 then ((allK x &&& allK y) &&& (2 ^ 64 - 1 - ((x.2 ^^^ y.2) &&& allK x &&& allK y)), (x.2 ^^^ y.2) &&& allK x &&& allK y)
  else if op = 8 ∨ op = 9 ∨ op = 10 then sumsK op W x y
  else if op = 16 ∨ op = 17 ∨ op = 18 then movedK op W x y
  else if op = 19 then (if x.2 &&& y.1 = 0 then (if x.1 &&& y.2 = 0 then (0, 0) else ofK 1 0) else ofK 1 0)
  else (0, 0)
theorem kz_eta (z : Nat × Nat) : (some ((KZ z).1, (KZ z).2) : Option (Int × Int)) = some (KZ z) := rfl

theorem num_lt (W : Nat) (b : Nat × Nat) : (numK W b).1 < 2 ^ W := by
  unfold numK
  split
  · exact (right_okK W b).2.1
  · exact Nat.pow_pos (by decide)
/-- What known.Apply answers. -/
def kapplyK (op : Int) (W : Nat) (x y : Nat × Nat) : Nat × Nat :=
  if isOpK op then (if (numK W x).2 = true ∧ ((numK W y).2 = true ∨ op = 5) then ofK (ansK op W) (applyN op W (numK W x).1 (numK W y).1) else tableK op W (rightK W x) (rightK W y)) else (0, 0)

theorem fits_zero (v : Nat) : Fits (0, 0) v := fun i => ⟨fun h => by simp at h, fun h => by simp at h⟩
theorem ok_zero (W : Nat) : OkK W (0, 0) := ⟨Nat.pow_pos (by decide), Nat.pow_pos (by decide), rfl⟩
theorem ok_of_fits {V : Nat} {t : Nat × Nat} {v : Nat} (h1 : t.1 < 2 ^ V) (h2 : t.2 < 2 ^ V) (f : Fits t v) : OkK V t := by
  refine ⟨h1, h2, (and0_iff _ _).2 fun i hi => ?_⟩
  cases c : t.2.testBit i
  · rfl
  · have a := (f i).1 hi
    rw [(f i).2 c] at a
    cases a
theorem known_bit {x : Nat × Nat} (o : x.1 &&& x.2 = 0) {a : Nat} (f : Fits x a) {i : Nat} (h : (allK x).testBit i = true) : a.testBit i = x.2.testBit i := by
  unfold allK at h
  rw [Nat.testBit_or, Bool.or_eq_true] at h
  rcases h with h | h
  · rw [(f i).1 h, (and0_iff _ _).1 o i h]
  · rw [(f i).2 h, h]
theorem self_fits {W : Nat} {x : Nat × Nat} (o : OkK W x) : Fits x x.2 := fun i => ⟨fun h => (and0_iff _ _).1 o.2.2 i h, fun h => h⟩
/-- The lowest bits of a sum, of a difference, of a product hang on the lowest bits alone. -/
theorem apply_low {op : Int} (ho : op = 8 ∨ op = 9 ∨ op = 10) {n W : Nat} (h : n ≤ W) {a b : Nat} (hb : b < 2 ^ W) : applyN op W a b % 2 ^ n = applyN op n (a % 2 ^ n) (b % 2 ^ n) := by
  have dv : 2 ^ n ∣ 2 ^ W := Nat.pow_dvd_pow 2 h
  have pn : 0 < 2 ^ n := Nat.pow_pos (by decide)
  rcases ho with rfl | rfl | rfl
  · simp only [applyN, show ¬ (8 : Int) = 5 by decide, show ¬ (8 : Int) = 9 by decide, if_false, if_true]
    rw [Nat.mod_mod_of_dvd _ dv, Nat.add_mod]
  · simp only [applyN, show ¬ (9 : Int) = 5 by decide, if_false, if_true]
    rw [Nat.mod_mod_of_dvd _ dv]
    obtain ⟨q, hq⟩ := dv
    generalize 2 ^ n = D at *
    rw [hq] at hb ⊢
    have hd := Nat.div_add_mod b D
    have hm := Nat.mod_lt b pn
    have hlt : b / D < q := (Nat.div_lt_iff_lt_mul pn).2 (by rw [Nat.mul_comm]; exact hb)
    have e : D * q - b = D * (q - b / D - 1) + (D - b % D) := by
      obtain ⟨c, hc⟩ : ∃ c, q = b / D + 1 + c := ⟨q - (b / D + 1), by omega⟩
      rw [hc, show b / D + 1 + c - b / D - 1 = c by omega, Nat.mul_add, Nat.mul_add, Nat.mul_one]
      omega
    rw [e, show a + (D * (q - b / D - 1) + (D - b % D)) = (a + (D - b % D)) + D * (q - b / D - 1) by omega, Nat.add_mul_mod_self_left, Nat.mod_add_mod]
  · simp only [applyN, show ¬ (10 : Int) = 5 by decide, show ¬ (10 : Int) = 9 by decide, show ¬ (10 : Int) = 8 by decide, if_false, if_true]
    rw [Nat.mod_mod_of_dvd _ dv, Nat.mul_mod]
theorem low_mod {x : Nat × Nat} (h1 : x.1 < 2 ^ 64) (h2 : x.2 < 2 ^ 64) (o : x.1 &&& x.2 = 0) {a n : Nat} (f : Fits x a) (hn : n ≤ lowK x) : a % 2 ^ n = x.2 % 2 ^ n := by
  apply Nat.eq_of_testBit_eq
  intro i
  rw [Nat.testBit_mod_two_pow, Nat.testBit_mod_two_pow]
  by_cases c : i < n
  · rw [known_bit o f (show (allK x).testBit i = true from (low_spec h1 h2).1 i (by omega))]
  · rw [decide_eq_false c]; rfl
theorem lt_pow {a n W : Nat} (h : a < 2 ^ n) (hn : n ≤ W) : a < 2 ^ W := Nat.lt_of_lt_of_le h (Nat.pow_le_pow_right (by decide) hn)
theorem sums_fits {op : Int} (ho : op = 8 ∨ op = 9 ∨ op = 10) {W : Nat} (hW : W ≤ 64) {x y : Nat × Nat} (hx : OkK W x) (hy : OkK W y) {a b : Nat} (lb : b < 2 ^ W) (fa : Fits x a) (fb : Fits y b) : (sumsK op W x y).1 < 2 ^ W ∧ (sumsK op W x y).2 < 2 ^ W ∧ Fits (sumsK op W x y) (applyN op W a b) := by
  have ox := ok_lt64 hW hx
  have oy := ok_lt64 hW hy
  have pw : 0 < 2 ^ W := Nat.pow_pos (by decide)
  unfold sumsK
  have n1 : min (min (lowK x) (lowK y)) W ≤ lowK x := by omega
  have n2 : min (min (lowK x) (lowK y)) W ≤ lowK y := by omega
  have n3 : min (min (lowK x) (lowK y)) W ≤ W := by omega
  generalize min (min (lowK x) (lowK y)) W = n at *
  by_cases c : n = 0
  · rw [if_pos c]; exact ⟨pw, pw, fits_zero _⟩
  · rw [if_neg c]
    have ok := of_okK n (applyN op n (x.2 % 2 ^ n) (y.2 % 2 ^ n))
    have pn : 0 < 2 ^ n := Nat.pow_pos (by decide)
    have lt := apply_lt op (W := n) (by omega) (Nat.mod_lt x.2 pn) (Nat.mod_lt y.2 pn)
    refine ⟨lt_pow ok.1 n3, lt_pow ok.2.1 n3, (fits_mod ok _).1 ((of_fits lt (Nat.mod_lt _ pn)).2 ?_)⟩
    rw [apply_low ho n3 lb, low_mod ox.1 ox.2 hx.2.2 fa n1, low_mod oy.1 oy.2 hy.2.2 fb n2]
/-! shifts -/
theorem div_bit (x s i : Nat) : (x / 2 ^ s).testBit i = x.testBit (i + s) := by rw [Nat.testBit_div_two_pow]
theorem in_bit {W : Nat} (hW : W ≤ 64) (s i : Nat) : (inK W s).testBit i = (decide (i < W) && !decide (i + s < W)) := by
  have hp := pow_le64 hW
  have hd : (2 ^ W - 1) / 2 ^ s ≤ 2 ^ W - 1 := Nat.div_le_self _ _
  have pw : 0 < 2 ^ W := Nat.pow_pos (by decide)
  unfold inK
  rw [Nat.testBit_and, Nat.testBit_two_pow_sub_one, of_bits (by omega), div_bit, Nat.testBit_two_pow_sub_one]
  by_cases c : i < W
  · rw [decide_eq_true c, decide_eq_true (show i < 64 by omega)]; rfl
  · rw [decide_eq_false c]; rfl
theorem in_lt {W : Nat} (s : Nat) : inK W s < 2 ^ W := by
  have pw : 0 < 2 ^ W := Nat.pow_pos (by decide)
  exact Nat.lt_of_le_of_lt Nat.and_le_left (by omega)
theorem top_bit {W a : Nat} (h1 : 1 ≤ W) (h : a < 2 ^ W) : a.testBit (W - 1) = decide (2 ^ (W - 1) ≤ a) := by
  have e := half_split W h1
  by_cases c : 2 ^ (W - 1) ≤ a
  · rw [decide_eq_true c]
    have r : a = 2 ^ (W - 1) + (a - 2 ^ (W - 1)) := by omega
    rw [r, Nat.testBit_two_pow_add_eq, Nat.testBit_lt_two_pow (by omega)]
    rfl
  · rw [decide_eq_false c]
    exact Nat.testBit_lt_two_pow (by omega)
theorem sar_bit {W a s : Nat} (h1 : 1 ≤ W) (h : a < 2 ^ W) (hs : s < W) (i : Nat) : (sarN W a s).testBit i = (decide (i < W) && (if i + s < W then a.testBit (i + s) else a.testBit (W - 1))) := by
  have tb := top_bit h1 h
  have hi : ∀ j, W ≤ j → a.testBit j = false := fun j hj => Nat.testBit_lt_two_pow (lt_pow h hj)
  unfold sarN
  by_cases c : 2 ^ (W - 1) ≤ a
  · rw [decide_eq_true c] at tb
    have l : (2 ^ W - 1 - a) / 2 ^ s < 2 ^ W := Nat.lt_of_le_of_lt (Nat.div_le_self _ _) (by omega)
    rw [if_pos c, if_neg (by omega), of_bits l, div_bit, of_bits h, tb]
    by_cases d : i + s < W
    · rw [if_pos d, decide_eq_true d, Bool.true_and, Bool.not_not]
    · rw [if_neg d, decide_eq_false d]; rfl
  · rw [decide_eq_false c] at tb
    rw [if_neg c, if_neg (by omega), div_bit, tb]
    by_cases d : i + s < W
    · rw [if_pos d, decide_eq_true (show i < W by omega), Bool.true_and]
    · rw [if_neg d, hi _ (by omega), Bool.and_false]
theorem sar_far {W a s : Nat} (h1 : 1 ≤ W) (h : a < 2 ^ W) (hs : W ≤ s) : sarN W a s = sarN W a (W - 1) := by
  have e := half_split W h1
  have pp : 0 < 2 ^ (W - 1) := Nat.pow_pos (by decide)
  unfold sarN
  by_cases c : 2 ^ (W - 1) ≤ a
  · rw [if_pos c, if_pos c, if_pos hs, if_neg (by omega), Nat.div_eq_of_lt (by omega)]
  · rw [if_neg c, if_neg c, if_pos hs, if_neg (by omega), Nat.div_eq_of_lt (by omega)]
theorem and_top (x n : Nat) : x &&& 2 ^ n = 0 ↔ x.testBit n = false := by
  rw [and0_iff]
  constructor
  · intro h
    cases c : x.testBit n
    · rfl
    · have := h n c
      rw [Nat.testBit_two_pow_self] at this
      cases this
  · intro h i hi
    rw [Nat.testBit_two_pow]
    have : ¬ n = i := fun e => by rw [← e, h] at hi; cases hi
    exact decide_eq_false this
theorem div_lt (a s W : Nat) (h : a < 2 ^ W) : a / 2 ^ s < 2 ^ W := Nat.lt_of_le_of_lt (Nat.div_le_self _ _) h
theorem sign_fits {W : Nat} (h1 : 1 ≤ W) (hW : W ≤ 64) {x : Nat × Nat} (hx : OkK W x) {a s : Nat} (la : a < 2 ^ W) (fa : Fits x a) (hs : s < W) : (signK W x s).1 < 2 ^ W ∧ (signK W x s).2 < 2 ^ W ∧ Fits (signK W x s) (sarN W a s) := by
  have b1 : ∀ i, x.1.testBit (i + s) = true → (sarN W a s).testBit i = false := fun i hi => by
    have := bit_lt hx.1 hi
    rw [sar_bit h1 la hs, if_pos this, (fa _).1 hi, Bool.and_false]
  have b2 : ∀ i, x.2.testBit (i + s) = true → (sarN W a s).testBit i = true := fun i hi => by
    have := bit_lt hx.2.1 hi
    rw [sar_bit h1 la hs, if_pos this, (fa _).2 hi, decide_eq_true (show i < W by omega)]; rfl
  have b3 : ∀ i, (inK W s).testBit i = true → (sarN W a s).testBit i = a.testBit (W - 1) := fun i hi => by
    rw [in_bit hW] at hi
    simp only [Bool.and_eq_true, decide_eq_true_eq, Bool.not_eq_true', decide_eq_false_iff_not] at hi
    rw [sar_bit h1 la hs, if_neg hi.2, decide_eq_true hi.1, Bool.true_and]
  unfold signK
  by_cases c : x.1 &&& 2 ^ (W - 1) = 0
  · rw [if_pos c]
    by_cases d : x.2 &&& 2 ^ (W - 1) = 0
    · rw [if_pos d]
      exact ⟨div_lt _ _ _ hx.1, div_lt _ _ _ hx.2.1, fun i => ⟨fun h => b1 i (by rw [div_bit] at h; exact h), fun h => b2 i (by rw [div_bit] at h; exact h)⟩⟩
    · rw [if_neg d]
      refine ⟨div_lt _ _ _ hx.1, Nat.or_lt_two_pow (div_lt _ _ _ hx.2.1) (in_lt s), fun i => ⟨fun h => b1 i (by rw [div_bit] at h; exact h), fun h => ?_⟩⟩
      simp only [Nat.testBit_or, Bool.or_eq_true, div_bit] at h
      rcases h with h | h
      · exact b2 i h
      · rw [b3 i h]
        rw [and_top] at d
        exact (fa _).2 (by simpa using d)
  · rw [if_neg c]
    refine ⟨Nat.or_lt_two_pow (div_lt _ _ _ hx.1) (in_lt s), div_lt _ _ _ hx.2.1, fun i => ⟨fun h => ?_, fun h => b2 i (by rw [div_bit] at h; exact h)⟩⟩
    simp only [Nat.testBit_or, Bool.or_eq_true, div_bit] at h
    rcases h with h | h
    · exact b1 i h
    · rw [b3 i h]
      rw [and_top] at c
      exact (fa _).1 (by simpa using c)
theorem down_fits {W : Nat} (hW : W ≤ 64) {x : Nat × Nat} (hx : OkK W x) {a s : Nat} (la : a < 2 ^ W) (fa : Fits x a) : (downK W x s).1 < 2 ^ W ∧ (downK W x s).2 < 2 ^ W ∧ Fits (downK W x s) (a / 2 ^ s) := by
  unfold downK
  refine ⟨Nat.or_lt_two_pow (div_lt _ _ _ hx.1) (in_lt s), div_lt _ _ _ hx.2.1, fun i => ⟨fun h => ?_, fun h => ?_⟩⟩
  · simp only [Nat.testBit_or, Bool.or_eq_true, div_bit] at h
    rw [div_bit]
    rcases h with h | h
    · exact (fa _).1 h
    · rw [in_bit hW] at h
      simp only [Bool.and_eq_true, decide_eq_true_eq, Bool.not_eq_true', decide_eq_false_iff_not] at h
      exact Nat.testBit_lt_two_pow (lt_pow la (by omega))
  · rw [div_bit] at h ⊢
    exact (fa _).2 h
theorem mul_bit (x s i : Nat) : (x * 2 ^ s).testBit i = (decide (s ≤ i) && x.testBit (i - s)) := by rw [Nat.testBit_mul_two_pow]
theorem up_bits {W : Nat} (hW : W ≤ 64) (x : Nat × Nat) (s i : Nat) : ((x.1 * 2 ^ s % 2 ^ 64 ||| (2 ^ s - 1)) % 2 ^ W).testBit i = (decide (i < W) && (decide (s ≤ i) && x.1.testBit (i - s) || decide (i < s))) ∧ (x.2 * 2 ^ s % 2 ^ 64 % 2 ^ W).testBit i = (decide (i < W) && (decide (s ≤ i) && x.2.testBit (i - s))) := by
  constructor
  · rw [Nat.testBit_mod_two_pow, Nat.testBit_or, Nat.testBit_mod_two_pow, Nat.testBit_two_pow_sub_one, mul_bit]
    by_cases c : i < W
    · rw [decide_eq_true c, decide_eq_true (show i < 64 by omega)]; simp only [Bool.true_and]
    · rw [decide_eq_false c]; rfl
  · rw [Nat.testBit_mod_two_pow, Nat.testBit_mod_two_pow, mul_bit]
    by_cases c : i < W
    · rw [decide_eq_true c, decide_eq_true (show i < 64 by omega)]; simp only [Bool.true_and]
    · rw [decide_eq_false c]; rfl
theorem up_fits {W : Nat} (hW : W ≤ 64) {x : Nat × Nat} {a s : Nat} (fa : Fits x a) : (upK W x s).1 < 2 ^ W ∧ (upK W x s).2 < 2 ^ W ∧ Fits (upK W x s) (a * 2 ^ s % 2 ^ W) := by
  have o := right_okK W (x.1 * 2 ^ s % 2 ^ 64 ||| (2 ^ s - 1), x.2 * 2 ^ s % 2 ^ 64)
  refine ⟨o.1, o.2.1, ?_⟩
  unfold upK rightK
  split
  · intro i
    simp only
    rw [(up_bits hW x s i).1, (up_bits hW x s i).2, Nat.testBit_mod_two_pow, mul_bit]
    simp only [Bool.and_eq_true, Bool.or_eq_true, decide_eq_true_eq]
    refine ⟨fun h => ?_, fun h => ?_⟩
    · rcases h.2 with q | q
      · rw [(fa _).1 q.2, Bool.and_false, Bool.and_false]
      · rw [decide_eq_false (show ¬ s ≤ i by omega), Bool.false_and, Bool.and_false]
    · exact ⟨h.1, h.2.1, (fa _).2 h.2.2⟩
  · exact fits_zero _
theorem num_is {W : Nat} {y : Nat × Nat} (hy : OkK W y) (h : (numK W y).2 = true) : (numK W y).1 = y.2 ∧ y = ofK W y.2 := by
  unfold numK at h ⊢
  rw [right_ofK hy] at h ⊢
  by_cases c : y.1 = 2 ^ W - 1 - y.2
  · rw [if_pos c]
    refine ⟨rfl, ?_⟩
    unfold ofK
    rw [Nat.mod_eq_of_lt hy.2.1, ← c]
  · rw [if_neg c] at h; cases h
theorem num_fits {W : Nat} {y : Nat × Nat} (hy : OkK W y) (h : (numK W y).2 = true) {b : Nat} (lb : b < 2 ^ W) (fb : Fits y b) : (numK W y).1 = b := by
  obtain ⟨e1, e2⟩ := num_is hy h
  rw [e1]
  rw [e2] at fb
  exact ((of_fits hy.2.1 lb).1 fb).symm
theorem moved_fits {op : Int} (ho : op = 16 ∨ op = 17 ∨ op = 18) {W : Nat} (h1 : 1 ≤ W) (hW : W ≤ 64) {x y : Nat × Nat} (hx : OkK W x) (hy : OkK W y) {a b : Nat} (la : a < 2 ^ W) (lb : b < 2 ^ W) (fa : Fits x a) (fb : Fits y b) : (movedK op W x y).1 < 2 ^ W ∧ (movedK op W x y).2 < 2 ^ W ∧ Fits (movedK op W x y) (applyN op W a b) := by
  have pw : 0 < 2 ^ W := Nat.pow_pos (by decide)
  unfold movedK
  cases c : (numK W y).2
  · simp only [if_true]; exact ⟨pw, pw, fits_zero _⟩
  · simp only [Bool.true_eq_false, if_false]
    rw [num_fits hy c lb fb]
    have zero : W ≤ b → (ofK W 0).1 < 2 ^ W ∧ (ofK W 0).2 < 2 ^ W ∧ Fits (ofK W 0) 0 := fun _ => ⟨(of_okK W 0).1, (of_okK W 0).2.1, (of_fits pw pw).2 rfl⟩
    rcases ho with rfl | rfl | rfl
    · simp only [show ¬ (16 : Int) = 18 by decide, if_false, if_true]
      by_cases d : W ≤ b
      · rw [if_pos d]; simpa [applyN, d] using zero d
      · rw [if_neg d]; simpa [applyN, d] using up_fits hW fa
    · simp only [show ¬ (17 : Int) = 18 by decide, show ¬ (17 : Int) = 16 by decide, if_false]
      by_cases d : W ≤ b
      · rw [if_pos d]; simpa [applyN, d] using zero d
      · rw [if_neg d]; simpa [applyN, d] using down_fits hW hx la fa
    · simp only [if_true]
      by_cases d : W ≤ b
      · rw [if_pos d]
        have := sign_fits h1 hW hx la fa (s := W - 1) (by omega)
        rw [← sar_far h1 la d] at this
        simpa [applyN] using this
      · rw [if_neg d]
        simpa [applyN] using sign_fits h1 hW hx la fa (s := b) (by omega)
/-- Of words that have the bits, the table's answer has the answer's. -/
theorem table_fits {op : Int} (ho : isOpK op) {W : Nat} (h1 : 1 ≤ W) (hW : W ≤ 64) {x y : Nat × Nat} (hx : OkK W x) (hy : OkK W y) {a b : Nat} (la : a < 2 ^ W) (lb : b < 2 ^ W) (fa : Fits x a) (fb : Fits y b) : (tableK op W x y).1 < 2 ^ ansK op W ∧ (tableK op W x y).2 < 2 ^ ansK op W ∧ Fits (tableK op W x y) (applyN op W a b) := by
  have pw : 0 < 2 ^ W := Nat.pow_pos (by decide)
  unfold isOpK at ho
  by_cases c5 : op = 5
  · subst c5
    simp only [tableK, ansK, applyN, if_true, show ¬ (5 : Int) ≥ 19 by decide, if_false]
    refine ⟨hx.2.1, hx.1, fun i => ⟨fun h => ?_, fun h => ?_⟩⟩
    · rw [of_bits la, (fa _).2 h]; simp
    · rw [of_bits la, (fa _).1 h, decide_eq_true (bit_lt hx.1 h)]; rfl
  by_cases c13 : op = 13
  · subst c13
    simp only [tableK, ansK, applyN, if_true, show ¬ (13 : Int) ≥ 19 by decide, show ¬ (13 : Int) = 5 by decide, show ¬ (13 : Int) = 9 by decide, show ¬ (13 : Int) = 8 by decide, show ¬ (13 : Int) = 10 by decide, show ¬ (13 : Int) = 11 by decide, show ¬ (13 : Int) = 12 by decide, if_false]
    refine ⟨Nat.or_lt_two_pow hx.1 hy.1, Nat.lt_of_le_of_lt Nat.and_le_left hx.2.1, fun i => ?_⟩
    simp only [Nat.testBit_or, Nat.testBit_and, Bool.or_eq_true, Bool.and_eq_true]
    refine ⟨fun h => ?_, fun h => ⟨(fa _).2 h.1, (fb _).2 h.2⟩⟩
    rcases h with h | h
    · rw [(fa _).1 h, Bool.false_and]
    · rw [(fb _).1 h, Bool.and_false]
  by_cases c14 : op = 14
  · subst c14
    simp only [tableK, ansK, applyN, if_true, show ¬ (14 : Int) ≥ 19 by decide, show ¬ (14 : Int) = 5 by decide, show ¬ (14 : Int) = 9 by decide, show ¬ (14 : Int) = 8 by decide, show ¬ (14 : Int) = 10 by decide, show ¬ (14 : Int) = 11 by decide, show ¬ (14 : Int) = 12 by decide, show ¬ (14 : Int) = 13 by decide, if_false]
    refine ⟨Nat.lt_of_le_of_lt Nat.and_le_left hx.1, Nat.or_lt_two_pow hx.2.1 hy.2.1, fun i => ?_⟩
    simp only [Nat.testBit_or, Nat.testBit_and, Bool.or_eq_true, Bool.and_eq_true]
    refine ⟨fun h => by rw [(fa _).1 h.1, (fb _).1 h.2]; rfl, fun h => ?_⟩
    exact h.imp (fa _).2 (fb _).2
  by_cases c15 : op = 15
  · subst c15
    simp only [tableK, ansK, applyN, if_true, show ¬ (15 : Int) ≥ 19 by decide, show ¬ (15 : Int) = 5 by decide, show ¬ (15 : Int) = 9 by decide, show ¬ (15 : Int) = 8 by decide, show ¬ (15 : Int) = 10 by decide, show ¬ (15 : Int) = 11 by decide, show ¬ (15 : Int) = 12 by decide, show ¬ (15 : Int) = 13 by decide, show ¬ (15 : Int) = 14 by decide, if_false]
    have ax : allK x < 2 ^ W := Nat.or_lt_two_pow hx.1 hx.2.1
    have xl : (x.2 ^^^ y.2) < 2 ^ W := Nat.xor_lt_two_pow hx.2.1 hy.2.1
    have xb : (x.2 ^^^ y.2) &&& allK x &&& allK y < 2 ^ W := Nat.lt_of_le_of_lt Nat.and_le_left (Nat.lt_of_le_of_lt Nat.and_le_left xl)
    have xb64 := Nat.lt_of_lt_of_le xb (pow_le64 hW)
    refine ⟨Nat.lt_of_le_of_lt Nat.and_le_left (Nat.lt_of_le_of_lt Nat.and_le_left ax), xb, fun i => ⟨fun h => ?_, fun h => ?_⟩⟩
    · simp only [Nat.testBit_and, of_bits xb64, Bool.and_eq_true, Bool.not_eq_true', Nat.testBit_xor] at h
      obtain ⟨⟨q1, q2⟩, q3, q4⟩ := h
      rw [q1, q2, Bool.and_true, Bool.and_true] at q4
      rw [Nat.testBit_xor, known_bit hx.2.2 fa q1, known_bit hy.2.2 fb q2, q4]
    · simp only [Nat.testBit_and, Bool.and_eq_true, Nat.testBit_xor] at h
      rw [Nat.testBit_xor, known_bit hx.2.2 fa h.1.2, known_bit hy.2.2 fb h.2]
      exact h.1.1
  by_cases cs : op = 8 ∨ op = 9 ∨ op = 10
  · have e : tableK op W x y = sumsK op W x y := by unfold tableK; rw [if_neg c5, if_neg c13, if_neg c14, if_neg c15, if_pos cs]
    rw [e, show ansK op W = W by unfold ansK; rw [if_neg (by omega)]]
    exact sums_fits cs hW hx hy lb fa fb
  by_cases cm : op = 16 ∨ op = 17 ∨ op = 18
  · have e : tableK op W x y = movedK op W x y := by unfold tableK; rw [if_neg c5, if_neg c13, if_neg c14, if_neg c15, if_neg cs, if_pos cm]
    rw [e, show ansK op W = W by unfold ansK; rw [if_neg (by omega)]]
    exact moved_fits cm h1 hW hx hy la lb fa fb
  have e : tableK op W x y = (if op = 19 then (if x.2 &&& y.1 = 0 then (if x.1 &&& y.2 = 0 then (0, 0) else ofK 1 0) else ofK 1 0) else (0, 0)) := by unfold tableK; rw [if_neg c5, if_neg c13, if_neg c14, if_neg c15, if_neg cs, if_neg cm]
  rw [e]
  have pa : 0 < 2 ^ ansK op W := Nat.pow_pos (by decide)
  by_cases c19 : op = 19
  · subst c19
    simp only [if_true]
    have v : ∀ i, a.testBit i ≠ b.testBit i → applyN 19 W a b = 0 := fun i h => by
      have : a ≠ b := fun e => h (by rw [e])
      simp [applyN, this]
    have o := of_okK 1 0
    have f : Fits (ofK 1 0) 0 := (of_fits (by decide) (by decide)).2 rfl
    have ea : ansK 19 W = 1 := by unfold ansK; rw [if_pos (by decide)]
    have bits : ∀ u w : Nat, u &&& w ≠ 0 → ∃ i, u.testBit i = true ∧ w.testBit i = true := fun u w h => by
      apply Classical.byContradiction
      intro hn
      apply h
      rw [and0_iff]
      intro i hi
      cases c : w.testBit i
      · rfl
      · exact absurd ⟨i, hi, c⟩ hn
    rw [ea]
    by_cases d : x.2 &&& y.1 = 0
    · rw [if_pos d]
      by_cases d' : x.1 &&& y.2 = 0
      · rw [if_pos d']; exact ⟨by decide, by decide, fits_zero _⟩
      · rw [if_neg d']
        obtain ⟨i, q1, q2⟩ := bits _ _ d'
        rw [v i (by rw [(fa _).1 q1, (fb _).2 q2]; decide)]
        exact ⟨o.1, o.2.1, f⟩
    · rw [if_neg d]
      obtain ⟨i, q1, q2⟩ := bits _ _ d
      rw [v i (by rw [(fa _).2 q1, (fb _).1 q2]; decide)]
      exact ⟨o.1, o.2.1, f⟩
  · rw [if_neg c19]; exact ⟨pa, pa, fits_zero _⟩

theorem ans_range (op : Int) {W : Nat} (h1 : 1 ≤ W) (hW : W ≤ 64) : 1 ≤ ansK op W ∧ ansK op W ≤ 64 := by unfold ansK; split <;> omega
theorem apply_ans (op : Int) {W a b : Nat} (h1 : 1 ≤ W) (la : a < 2 ^ W) (lb : b < 2 ^ W) : applyN op W a b < 2 ^ ansK op W := by
  unfold ansK
  by_cases c : op ≥ 19
  · rw [if_pos c]
    have : applyN op W a b = 0 ∨ applyN op W a b = 1 := by
      unfold applyN
      repeat rw [if_neg (by omega)]
      split
      · split
        · exact .inr rfl
        · exact .inl rfl
      · split
        · split
          · exact .inr rfl
          · exact .inl rfl
        · split
          · split
            · exact .inr rfl
            · exact .inl rfl
          · exact .inl rfl
    omega
  · rw [if_neg c]; exact apply_lt op h1 la lb
theorem fits_right {W : Nat} {x : Nat × Nat} {a : Nat} (f : Fits (rightK W x) a) : Fits (rightK W x) (a % 2 ^ W) := (fits_mod (right_okK W x) a).2 f
/-- What known.Apply answers has the bits of what word.Apply answers. -/
theorem kapply_fits {op : Int} (ho : isOpK op) {W : Nat} (h1 : 1 ≤ W) (hW : W ≤ 64) (x y : Nat × Nat) {a b : Nat} (la : a < 2 ^ W) (lb : b < 2 ^ W) (fa : Fits (rightK W x) a) (fb : Fits (rightK W y) b) : OkK (ansK op W) (kapplyK op W x y) ∧ Fits (kapplyK op W x y) (applyN op W a b) := by
  unfold kapplyK
  rw [if_pos ho]
  have numr : ∀ z : Nat × Nat, numK W (rightK W z) = numK W z := fun z => by unfold numK; rw [right_ofK (right_okK W z)]
  by_cases c : (numK W x).2 = true ∧ ((numK W y).2 = true ∨ op = 5)
  · rw [if_pos c]
    have ea : (numK W x).1 = a := by
      have := num_fits (right_okK W x) (by rw [numr]; exact c.1) la fa
      rwa [numr] at this
    have e : applyN op W (numK W x).1 (numK W y).1 = applyN op W a b := by
      rw [ea]
      rcases c.2 with d | d
      · have := num_fits (right_okK W y) (by rw [numr]; exact d) lb fb
        rw [numr] at this
        rw [this]
      · subst d; simp [applyN]
    rw [e]
    have l := apply_ans op h1 la lb
    exact ⟨of_okK _ _, (of_fits l l).2 rfl⟩
  · rw [if_neg c]
    have t := table_fits ho h1 hW (right_okK W x) (right_okK W y) la lb fa fb
    exact ⟨ok_of_fits t.1 t.2.1 t.2.2, t.2.2⟩
theorem num_of {W x : Nat} (hx : x < 2 ^ W) : numK W (ofK W x) = (x, true) := by
  unfold numK
  rw [right_ofK (of_okK W x)]
  unfold ofK
  rw [Nat.mod_eq_of_lt hx, if_pos rfl]
end H
end Go.Proofs.YtahobmjchppciaaDoor.Sx.M5
