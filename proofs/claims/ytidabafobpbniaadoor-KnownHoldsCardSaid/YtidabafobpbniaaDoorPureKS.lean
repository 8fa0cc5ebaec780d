/- Known bits, the plain law: of words that have the bits, what known's table tells has the answer's. -/
import Derived.Test.YtidabafobpbniaaDoorPureKV
namespace Go.Proofs.YtidabafobpbniaaDoor.Pure
open Go.RowKit Go.Proofs.YtidabafobpbniaaDoor.P Go.Proofs.YtidabafobpbniaaDoorW.PrintWords Go.Proofs.YtidabafobpbniaaDoorW.PrintLast Go.Proofs.YtidabafobpbniaaDoorW.PrintMore
set_option linter.unusedVariables false
set_option linter.unusedSimpArgs false

theorem fits_zero (v : Nat) : Fits (0, 0) v := fun i => ⟨fun h => by simp at h, fun h => by simp at h⟩
theorem ok_zero (W : Nat) : OkK W (0, 0) := ⟨Nat.pow_pos (by decide), Nat.pow_pos (by decide), rfl⟩
theorem ok_of_fits {V : Nat} {t : Nat × Nat} {v : Nat} (h1 : t.1 < 2 ^ V) (h2 : t.2 < 2 ^ V) (f : Fits t v) : OkK V t := by
  refine ⟨h1, h2, (and0_iff _ _).2 fun i hi => ?_⟩
  cases c : t.2.testBit i
  · rfl
  · have a := (f i).1 hi
    rw [(f i).2 c] at a
    cases a
theorem known_bit {x : Nat × Nat} (o : x.1 &&& x.2 = 0) {a : Nat} (f : Fits x a) {i : Nat} (h : (allK x).testBit i = true) : a.testBit i = x.2.testBit i := by
  unfold allK at h
  rw [Nat.testBit_or, Bool.or_eq_true] at h
  rcases h with h | h
  · rw [(f i).1 h, (and0_iff _ _).1 o i h]
  · rw [(f i).2 h, h]
theorem self_fits {W : Nat} {x : Nat × Nat} (o : OkK W x) : Fits x x.2 := fun i => ⟨fun h => (and0_iff _ _).1 o.2.2 i h, fun h => h⟩
/-- The lowest bits of a sum, of a difference, of a product hang on the lowest bits alone. -/
theorem apply_low {op : Int} (ho : op = 8 ∨ op = 9 ∨ op = 10) {n W : Nat} (h : n ≤ W) {a b : Nat} (hb : b < 2 ^ W) : applyN op W a b % 2 ^ n = applyN op n (a % 2 ^ n) (b % 2 ^ n) := by
  have dv : 2 ^ n ∣ 2 ^ W := Nat.pow_dvd_pow 2 h
  have pn : 0 < 2 ^ n := Nat.pow_pos (by decide)
  rcases ho with rfl | rfl | rfl
  · simp only [applyN, show ¬ (8 : Int) = 5 by decide, show ¬ (8 : Int) = 9 by decide, if_false, if_true]
    rw [Nat.mod_mod_of_dvd _ dv, Nat.add_mod]
  · simp only [applyN, show ¬ (9 : Int) = 5 by decide, if_false, if_true]
    rw [Nat.mod_mod_of_dvd _ dv]
    obtain ⟨q, hq⟩ := dv
    generalize 2 ^ n = D at *
    rw [hq] at hb ⊢
    have hd := Nat.div_add_mod b D
    have hm := Nat.mod_lt b pn
    have hlt : b / D < q := (Nat.div_lt_iff_lt_mul pn).2 (by rw [Nat.mul_comm]; exact hb)
    have e : D * q - b = D * (q - b / D - 1) + (D - b % D) := by
      obtain ⟨c, hc⟩ : ∃ c, q = b / D + 1 + c := ⟨q - (b / D + 1), by omega⟩
      rw [hc, show b / D + 1 + c - b / D - 1 = c by omega, Nat.mul_add, Nat.mul_add, Nat.mul_one]
      omega
    rw [e, show a + (D * (q - b / D - 1) + (D - b % D)) = (a + (D - b % D)) + D * (q - b / D - 1) by omega, Nat.add_mul_mod_self_left, Nat.mod_add_mod]
  · simp only [applyN, show ¬ (10 : Int) = 5 by decide, show ¬ (10 : Int) = 9 by decide, show ¬ (10 : Int) = 8 by decide, if_false, if_true]
    rw [Nat.mod_mod_of_dvd _ dv, Nat.mul_mod]
theorem low_mod {x : Nat × Nat} (h1 : x.1 < 2 ^ 64) (h2 : x.2 < 2 ^ 64) (o : x.1 &&& x.2 = 0) {a n : Nat} (f : Fits x a) (hn : n ≤ lowK x) : a % 2 ^ n = x.2 % 2 ^ n := by
  apply Nat.eq_of_testBit_eq
  intro i
  rw [Nat.testBit_mod_two_pow, Nat.testBit_mod_two_pow]
  by_cases c : i < n
  · rw [known_bit o f (show (allK x).testBit i = true from (low_spec h1 h2).1 i (by omega))]
  · rw [decide_eq_false c]; rfl
theorem lt_pow {a n W : Nat} (h : a < 2 ^ n) (hn : n ≤ W) : a < 2 ^ W := Nat.lt_of_lt_of_le h (Nat.pow_le_pow_right (by decide) hn)
theorem sums_fits {op : Int} (ho : op = 8 ∨ op = 9 ∨ op = 10) {W : Nat} (hW : W ≤ 64) {x y : Nat × Nat} (hx : OkK W x) (hy : OkK W y) {a b : Nat} (lb : b < 2 ^ W) (fa : Fits x a) (fb : Fits y b) : (sumsK op W x y).1 < 2 ^ W ∧ (sumsK op W x y).2 < 2 ^ W ∧ Fits (sumsK op W x y) (applyN op W a b) := by
  have ox := ok_lt64 hW hx
  have oy := ok_lt64 hW hy
  have pw : 0 < 2 ^ W := Nat.pow_pos (by decide)
  unfold sumsK
  have n1 : min (min (lowK x) (lowK y)) W ≤ lowK x := by omega
  have n2 : min (min (lowK x) (lowK y)) W ≤ lowK y := by omega
  have n3 : min (min (lowK x) (lowK y)) W ≤ W := by omega
  generalize min (min (lowK x) (lowK y)) W = n at *
  by_cases c : n = 0
  · rw [if_pos c]; exact ⟨pw, pw, fits_zero _⟩
  · rw [if_neg c]
    have ok := of_okK n (applyN op n (x.2 % 2 ^ n) (y.2 % 2 ^ n))
    have pn : 0 < 2 ^ n := Nat.pow_pos (by decide)
    have lt := apply_lt op (W := n) (by omega) (Nat.mod_lt x.2 pn) (Nat.mod_lt y.2 pn)
    refine ⟨lt_pow ok.1 n3, lt_pow ok.2.1 n3, (fits_mod ok _).1 ((of_fits lt (Nat.mod_lt _ pn)).2 ?_)⟩
    rw [apply_low ho n3 lb, low_mod ox.1 ox.2 hx.2.2 fa n1, low_mod oy.1 oy.2 hy.2.2 fb n2]
/-! shifts -/
theorem div_bit (x s i : Nat) : (x / 2 ^ s).testBit i = x.testBit (i + s) := by rw [Nat.testBit_div_two_pow]
theorem in_bit {W : Nat} (hW : W ≤ 64) (s i : Nat) : (inK W s).testBit i = (decide (i < W) && !decide (i + s < W)) := by
  have hp := pow_le64 hW
  have hd : (2 ^ W - 1) / 2 ^ s ≤ 2 ^ W - 1 := Nat.div_le_self _ _
  have pw : 0 < 2 ^ W := Nat.pow_pos (by decide)
  unfold inK
  rw [Nat.testBit_and, Nat.testBit_two_pow_sub_one, of_bits (by omega), div_bit, Nat.testBit_two_pow_sub_one]
  by_cases c : i < W
  · rw [decide_eq_true c, decide_eq_true (show i < 64 by omega)]; rfl
  · rw [decide_eq_false c]; rfl
theorem in_lt {W : Nat} (s : Nat) : inK W s < 2 ^ W := by
  have pw : 0 < 2 ^ W := Nat.pow_pos (by decide)
  exact Nat.lt_of_le_of_lt Nat.and_le_left (by omega)
theorem top_bit {W a : Nat} (h1 : 1 ≤ W) (h : a < 2 ^ W) : a.testBit (W - 1) = decide (2 ^ (W - 1) ≤ a) := by
  have e := half_split W h1
  by_cases c : 2 ^ (W - 1) ≤ a
  · rw [decide_eq_true c]
    have r : a = 2 ^ (W - 1) + (a - 2 ^ (W - 1)) := by omega
    rw [r, Nat.testBit_two_pow_add_eq, Nat.testBit_lt_two_pow (by omega)]
    rfl
  · rw [decide_eq_false c]
    exact Nat.testBit_lt_two_pow (by omega)
theorem sar_bit {W a s : Nat} (h1 : 1 ≤ W) (h : a < 2 ^ W) (hs : s < W) (i : Nat) : (sarN W a s).testBit i = (decide (i < W) && (if i + s < W then a.testBit (i + s) else a.testBit (W - 1))) := by
  have tb := top_bit h1 h
  have hi : ∀ j, W ≤ j → a.testBit j = false := fun j hj => Nat.testBit_lt_two_pow (lt_pow h hj)
  unfold sarN
  by_cases c : 2 ^ (W - 1) ≤ a
  · rw [decide_eq_true c] at tb
    have l : (2 ^ W - 1 - a) / 2 ^ s < 2 ^ W := Nat.lt_of_le_of_lt (Nat.div_le_self _ _) (by omega)
    rw [if_pos c, if_neg (by omega), of_bits l, div_bit, of_bits h, tb]
    by_cases d : i + s < W
    · rw [if_pos d, decide_eq_true d, Bool.true_and, Bool.not_not]
    · rw [if_neg d, decide_eq_false d]; rfl
  · rw [decide_eq_false c] at tb
    rw [if_neg c, if_neg (by omega), div_bit, tb]
    by_cases d : i + s < W
    · rw [if_pos d, decide_eq_true (show i < W by omega), Bool.true_and]
    · rw [if_neg d, hi _ (by omega), Bool.and_false]
theorem sar_far {W a s : Nat} (h1 : 1 ≤ W) (h : a < 2 ^ W) (hs : W ≤ s) : sarN W a s = sarN W a (W - 1) := by
  have e := half_split W h1
  have pp : 0 < 2 ^ (W - 1) := Nat.pow_pos (by decide)
  unfold sarN
  by_cases c : 2 ^ (W - 1) ≤ a
  · rw [if_pos c, if_pos c, if_pos hs, if_neg (by omega), Nat.div_eq_of_lt (by omega)]
  · rw [if_neg c, if_neg c, if_pos hs, if_neg (by omega), Nat.div_eq_of_lt (by omega)]
theorem and_top (x n : Nat) : x &&& 2 ^ n = 0 ↔ x.testBit n = false := by
  rw [and0_iff]
  constructor
  · intro h
    cases c : x.testBit n
    · rfl
    · have := h n c
      rw [Nat.testBit_two_pow_self] at this
      cases this
  · intro h i hi
    rw [Nat.testBit_two_pow]
    have : ¬ n = i := fun e => by rw [← e, h] at hi; cases hi
    exact decide_eq_false this
theorem div_lt (a s W : Nat) (h : a < 2 ^ W) : a / 2 ^ s < 2 ^ W := Nat.lt_of_le_of_lt (Nat.div_le_self _ _) h
theorem sign_fits {W : Nat} (h1 : 1 ≤ W) (hW : W ≤ 64) {x : Nat × Nat} (hx : OkK W x) {a s : Nat} (la : a < 2 ^ W) (fa : Fits x a) (hs : s < W) : (signK W x s).1 < 2 ^ W ∧ (signK W x s).2 < 2 ^ W ∧ Fits (signK W x s) (sarN W a s) := by
  have b1 : ∀ i, x.1.testBit (i + s) = true → (sarN W a s).testBit i = false := fun i hi => by
    have := bit_lt hx.1 hi
    rw [sar_bit h1 la hs, if_pos this, (fa _).1 hi, Bool.and_false]
  have b2 : ∀ i, x.2.testBit (i + s) = true → (sarN W a s).testBit i = true := fun i hi => by
    have := bit_lt hx.2.1 hi
    rw [sar_bit h1 la hs, if_pos this, (fa _).2 hi, decide_eq_true (show i < W by omega)]; rfl
  have b3 : ∀ i, (inK W s).testBit i = true → (sarN W a s).testBit i = a.testBit (W - 1) := fun i hi => by
    rw [in_bit hW] at hi
    simp only [Bool.and_eq_true, decide_eq_true_eq, Bool.not_eq_true', decide_eq_false_iff_not] at hi
    rw [sar_bit h1 la hs, if_neg hi.2, decide_eq_true hi.1, Bool.true_and]
  unfold signK
  by_cases c : x.1 &&& 2 ^ (W - 1) = 0
  · rw [if_pos c]
    by_cases d : x.2 &&& 2 ^ (W - 1) = 0
    · rw [if_pos d]
      exact ⟨div_lt _ _ _ hx.1, div_lt _ _ _ hx.2.1, fun i => ⟨fun h => b1 i (by rw [div_bit] at h; exact h), fun h => b2 i (by rw [div_bit] at h; exact h)⟩⟩
    · rw [if_neg d]
      refine ⟨div_lt _ _ _ hx.1, Nat.or_lt_two_pow (div_lt _ _ _ hx.2.1) (in_lt s), fun i => ⟨fun h => b1 i (by rw [div_bit] at h; exact h), fun h => ?_⟩⟩
      simp only [Nat.testBit_or, Bool.or_eq_true, div_bit] at h
      rcases h with h | h
      · exact b2 i h
      · rw [b3 i h]
        rw [and_top] at d
        exact (fa _).2 (by simpa using d)
  · rw [if_neg c]
    refine ⟨Nat.or_lt_two_pow (div_lt _ _ _ hx.1) (in_lt s), div_lt _ _ _ hx.2.1, fun i => ⟨fun h => ?_, fun h => b2 i (by rw [div_bit] at h; exact h)⟩⟩
    simp only [Nat.testBit_or, Bool.or_eq_true, div_bit] at h
    rcases h with h | h
    · exact b1 i h
    · rw [b3 i h]
      rw [and_top] at c
      exact (fa _).1 (by simpa using c)
theorem down_fits {W : Nat} (hW : W ≤ 64) {x : Nat × Nat} (hx : OkK W x) {a s : Nat} (la : a < 2 ^ W) (fa : Fits x a) : (downK W x s).1 < 2 ^ W ∧ (downK W x s).2 < 2 ^ W ∧ Fits (downK W x s) (a / 2 ^ s) := by
  unfold downK
  refine ⟨Nat.or_lt_two_pow (div_lt _ _ _ hx.1) (in_lt s), div_lt _ _ _ hx.2.1, fun i => ⟨fun h => ?_, fun h => ?_⟩⟩
  · simp only [Nat.testBit_or, Bool.or_eq_true, div_bit] at h
    rw [div_bit]
    rcases h with h | h
    · exact (fa _).1 h
    · rw [in_bit hW] at h
      simp only [Bool.and_eq_true, decide_eq_true_eq, Bool.not_eq_true', decide_eq_false_iff_not] at h
      exact Nat.testBit_lt_two_pow (lt_pow la (by omega))
  · rw [div_bit] at h ⊢
    exact (fa _).2 h
theorem mul_bit (x s i : Nat) : (x * 2 ^ s).testBit i = (decide (s ≤ i) && x.testBit (i - s)) := by rw [Nat.testBit_mul_two_pow]
theorem up_bits {W : Nat} (hW : W ≤ 64) (x : Nat × Nat) (s i : Nat) : ((x.1 * 2 ^ s % 2 ^ 64 ||| (2 ^ s - 1)) % 2 ^ W).testBit i = (decide (i < W) && (decide (s ≤ i) && x.1.testBit (i - s) || decide (i < s))) ∧ (x.2 * 2 ^ s % 2 ^ 64 % 2 ^ W).testBit i = (decide (i < W) && (decide (s ≤ i) && x.2.testBit (i - s))) := by
  constructor
  · rw [Nat.testBit_mod_two_pow, Nat.testBit_or, Nat.testBit_mod_two_pow, Nat.testBit_two_pow_sub_one, mul_bit]
    by_cases c : i < W
    · rw [decide_eq_true c, decide_eq_true (show i < 64 by omega)]; simp only [Bool.true_and]
    · rw [decide_eq_false c]; rfl
  · rw [Nat.testBit_mod_two_pow, Nat.testBit_mod_two_pow, mul_bit]
    by_cases c : i < W
    · rw [decide_eq_true c, decide_eq_true (show i < 64 by omega)]; simp only [Bool.true_and]
    · rw [decide_eq_false c]; rfl
theorem up_fits {W : Nat} (hW : W ≤ 64) {x : Nat × Nat} {a s : Nat} (fa : Fits x a) : (upK W x s).1 < 2 ^ W ∧ (upK W x s).2 < 2 ^ W ∧ Fits (upK W x s) (a * 2 ^ s % 2 ^ W) := by
  have o := right_okK W (x.1 * 2 ^ s % 2 ^ 64 ||| (2 ^ s - 1), x.2 * 2 ^ s % 2 ^ 64)
  refine ⟨o.1, o.2.1, ?_⟩
  unfold upK rightK
  split
  · intro i
    simp only
    rw [(up_bits hW x s i).1, (up_bits hW x s i).2, Nat.testBit_mod_two_pow, mul_bit]
    simp only [Bool.and_eq_true, Bool.or_eq_true, decide_eq_true_eq]
    refine ⟨fun h => ?_, fun h => ?_⟩
    · rcases h.2 with q | q
      · rw [(fa _).1 q.2, Bool.and_false, Bool.and_false]
      · rw [decide_eq_false (show ¬ s ≤ i by omega), Bool.false_and, Bool.and_false]
    · exact ⟨h.1, h.2.1, (fa _).2 h.2.2⟩
  · exact fits_zero _
theorem num_is {W : Nat} {y : Nat × Nat} (hy : OkK W y) (h : (numK W y).2 = true) : (numK W y).1 = y.2 ∧ y = ofK W y.2 := by
  unfold numK at h ⊢
  rw [right_ofK hy] at h ⊢
  by_cases c : y.1 = 2 ^ W - 1 - y.2
  · rw [if_pos c]
    refine ⟨rfl, ?_⟩
    unfold ofK
    rw [Nat.mod_eq_of_lt hy.2.1, ← c]
  · rw [if_neg c] at h; cases h
theorem num_fits {W : Nat} {y : Nat × Nat} (hy : OkK W y) (h : (numK W y).2 = true) {b : Nat} (lb : b < 2 ^ W) (fb : Fits y b) : (numK W y).1 = b := by
  obtain ⟨e1, e2⟩ := num_is hy h
  rw [e1]
  rw [e2] at fb
  exact ((of_fits hy.2.1 lb).1 fb).symm
theorem moved_fits {op : Int} (ho : op = 16 ∨ op = 17 ∨ op = 18) {W : Nat} (h1 : 1 ≤ W) (hW : W ≤ 64) {x y : Nat × Nat} (hx : OkK W x) (hy : OkK W y) {a b : Nat} (la : a < 2 ^ W) (lb : b < 2 ^ W) (fa : Fits x a) (fb : Fits y b) : (movedK op W x y).1 < 2 ^ W ∧ (movedK op W x y).2 < 2 ^ W ∧ Fits (movedK op W x y) (applyN op W a b) := by
  have pw : 0 < 2 ^ W := Nat.pow_pos (by decide)
  unfold movedK
  cases c : (numK W y).2
  · simp only [if_true]; exact ⟨pw, pw, fits_zero _⟩
  · simp only [Bool.true_eq_false, if_false]
    rw [num_fits hy c lb fb]
    have zero : W ≤ b → (ofK W 0).1 < 2 ^ W ∧ (ofK W 0).2 < 2 ^ W ∧ Fits (ofK W 0) 0 := fun _ => ⟨(of_okK W 0).1, (of_okK W 0).2.1, (of_fits pw pw).2 rfl⟩
    rcases ho with rfl | rfl | rfl
    · simp only [show ¬ (16 : Int) = 18 by decide, if_false, if_true]
      by_cases d : W ≤ b
      · rw [if_pos d]; simpa [applyN, d] using zero d
      · rw [if_neg d]; simpa [applyN, d] using up_fits hW fa
    · simp only [show ¬ (17 : Int) = 18 by decide, show ¬ (17 : Int) = 16 by decide, if_false]
      by_cases d : W ≤ b
      · rw [if_pos d]; simpa [applyN, d] using zero d
      · rw [if_neg d]; simpa [applyN, d] using down_fits hW hx la fa
    · simp only [if_true]
      by_cases d : W ≤ b
      · rw [if_pos d]
        have := sign_fits h1 hW hx la fa (s := W - 1) (by omega)
        rw [← sar_far h1 la d] at this
        simpa [applyN] using this
      · rw [if_neg d]
        simpa [applyN] using sign_fits h1 hW hx la fa (s := b) (by omega)
/-- Of words that have the bits, the table's answer has the answer's. -/
theorem table_fits {op : Int} (ho : isOpK op) {W : Nat} (h1 : 1 ≤ W) (hW : W ≤ 64) {x y : Nat × Nat} (hx : OkK W x) (hy : OkK W y) {a b : Nat} (la : a < 2 ^ W) (lb : b < 2 ^ W) (fa : Fits x a) (fb : Fits y b) : (tableK op W x y).1 < 2 ^ ansK op W ∧ (tableK op W x y).2 < 2 ^ ansK op W ∧ Fits (tableK op W x y) (applyN op W a b) := by
  have pw : 0 < 2 ^ W := Nat.pow_pos (by decide)
  unfold isOpK at ho
  by_cases c5 : op = 5
  · subst c5
    simp only [tableK, ansK, applyN, if_true, show ¬ (5 : Int) ≥ 19 by decide, if_false]
    refine ⟨hx.2.1, hx.1, fun i => ⟨fun h => ?_, fun h => ?_⟩⟩
    · rw [of_bits la, (fa _).2 h]; simp
    · rw [of_bits la, (fa _).1 h, decide_eq_true (bit_lt hx.1 h)]; rfl
  by_cases c13 : op = 13
  · subst c13
    simp only [tableK, ansK, applyN, if_true, show ¬ (13 : Int) ≥ 19 by decide, show ¬ (13 : Int) = 5 by decide, show ¬ (13 : Int) = 9 by decide, show ¬ (13 : Int) = 8 by decide, show ¬ (13 : Int) = 10 by decide, show ¬ (13 : Int) = 11 by decide, show ¬ (13 : Int) = 12 by decide, if_false]
    refine ⟨Nat.or_lt_two_pow hx.1 hy.1, Nat.lt_of_le_of_lt Nat.and_le_left hx.2.1, fun i => ?_⟩
    simp only [Nat.testBit_or, Nat.testBit_and, Bool.or_eq_true, Bool.and_eq_true]
    refine ⟨fun h => ?_, fun h => ⟨(fa _).2 h.1, (fb _).2 h.2⟩⟩
    rcases h with h | h
    · rw [(fa _).1 h, Bool.false_and]
    · rw [(fb _).1 h, Bool.and_false]
  by_cases c14 : op = 14
  · subst c14
    simp only [tableK, ansK, applyN, if_true, show ¬ (14 : Int) ≥ 19 by decide, show ¬ (14 : Int) = 5 by decide, show ¬ (14 : Int) = 9 by decide, show ¬ (14 : Int) = 8 by decide, show ¬ (14 : Int) = 10 by decide, show ¬ (14 : Int) = 11 by decide, show ¬ (14 : Int) = 12 by decide, show ¬ (14 : Int) = 13 by decide, if_false]
    refine ⟨Nat.lt_of_le_of_lt Nat.and_le_left hx.1, Nat.or_lt_two_pow hx.2.1 hy.2.1, fun i => ?_⟩
    simp only [Nat.testBit_or, Nat.testBit_and, Bool.or_eq_true, Bool.and_eq_true]
    refine ⟨fun h => by rw [(fa _).1 h.1, (fb _).1 h.2]; rfl, fun h => ?_⟩
    exact h.imp (fa _).2 (fb _).2
  by_cases c15 : op = 15
  · subst c15
    simp only [tableK, ansK, applyN, if_true, show ¬ (15 : Int) ≥ 19 by decide, show ¬ (15 : Int) = 5 by decide, show ¬ (15 : Int) = 9 by decide, show ¬ (15 : Int) = 8 by decide, show ¬ (15 : Int) = 10 by decide, show ¬ (15 : Int) = 11 by decide, show ¬ (15 : Int) = 12 by decide, show ¬ (15 : Int) = 13 by decide, show ¬ (15 : Int) = 14 by decide, if_false]
    have ax : allK x < 2 ^ W := Nat.or_lt_two_pow hx.1 hx.2.1
    have xl : (x.2 ^^^ y.2) < 2 ^ W := Nat.xor_lt_two_pow hx.2.1 hy.2.1
    have xb : (x.2 ^^^ y.2) &&& allK x &&& allK y < 2 ^ W := Nat.lt_of_le_of_lt Nat.and_le_left (Nat.lt_of_le_of_lt Nat.and_le_left xl)
    have xb64 := Nat.lt_of_lt_of_le xb (pow_le64 hW)
    refine ⟨Nat.lt_of_le_of_lt Nat.and_le_left (Nat.lt_of_le_of_lt Nat.and_le_left ax), xb, fun i => ⟨fun h => ?_, fun h => ?_⟩⟩
    · simp only [Nat.testBit_and, of_bits xb64, Bool.and_eq_true, Bool.not_eq_true', Nat.testBit_xor] at h
      obtain ⟨⟨q1, q2⟩, q3, q4⟩ := h
      rw [q1, q2, Bool.and_true, Bool.and_true] at q4
      rw [Nat.testBit_xor, known_bit hx.2.2 fa q1, known_bit hy.2.2 fb q2, q4]
    · simp only [Nat.testBit_and, Bool.and_eq_true, Nat.testBit_xor] at h
      rw [Nat.testBit_xor, known_bit hx.2.2 fa h.1.2, known_bit hy.2.2 fb h.2]
      exact h.1.1
  by_cases cs : op = 8 ∨ op = 9 ∨ op = 10
  · have e : tableK op W x y = sumsK op W x y := by unfold tableK; rw [if_neg c5, if_neg c13, if_neg c14, if_neg c15, if_pos cs]
    rw [e, show ansK op W = W by unfold ansK; rw [if_neg (by omega)]]
    exact sums_fits cs hW hx hy lb fa fb
  by_cases cm : op = 16 ∨ op = 17 ∨ op = 18
  · have e : tableK op W x y = movedK op W x y := by unfold tableK; rw [if_neg c5, if_neg c13, if_neg c14, if_neg c15, if_neg cs, if_pos cm]
    rw [e, show ansK op W = W by unfold ansK; rw [if_neg (by omega)]]
    exact moved_fits cm h1 hW hx hy la lb fa fb
  have e : tableK op W x y = (if op = 19 then (if x.2 &&& y.1 = 0 then (if x.1 &&& y.2 = 0 then (0, 0) else ofK 1 0) else ofK 1 0) else (0, 0)) := by unfold tableK; rw [if_neg c5, if_neg c13, if_neg c14, if_neg c15, if_neg cs, if_neg cm]
  rw [e]
  have pa : 0 < 2 ^ ansK op W := Nat.pow_pos (by decide)
  by_cases c19 : op = 19
  · subst c19
    simp only [if_true]
    have v : ∀ i, a.testBit i ≠ b.testBit i → applyN 19 W a b = 0 := fun i h => by
      have : a ≠ b := fun e => h (by rw [e])
      simp [applyN, this]
    have o := of_okK 1 0
    have f : Fits (ofK 1 0) 0 := (of_fits (by decide) (by decide)).2 rfl
    have ea : ansK 19 W = 1 := by unfold ansK; rw [if_pos (by decide)]
    have bits : ∀ u w : Nat, u &&& w ≠ 0 → ∃ i, u.testBit i = true ∧ w.testBit i = true := fun u w h => by
      apply Classical.byContradiction
      intro hn
      apply h
      rw [and0_iff]
      intro i hi
      cases c : w.testBit i
      · rfl
      · exact absurd ⟨i, hi, c⟩ hn
    rw [ea]
    by_cases d : x.2 &&& y.1 = 0
    · rw [if_pos d]
      by_cases d' : x.1 &&& y.2 = 0
      · rw [if_pos d']; exact ⟨by decide, by decide, fits_zero _⟩
      · rw [if_neg d']
        obtain ⟨i, q1, q2⟩ := bits _ _ d'
        rw [v i (by rw [(fa _).1 q1, (fb _).2 q2]; decide)]
        exact ⟨o.1, o.2.1, f⟩
    · rw [if_neg d]
      obtain ⟨i, q1, q2⟩ := bits _ _ d
      rw [v i (by rw [(fa _).2 q1, (fb _).1 q2]; decide)]
      exact ⟨o.1, o.2.1, f⟩
  · rw [if_neg c19]; exact ⟨pa, pa, fits_zero _⟩
end Go.Proofs.YtidabafobpbniaaDoor.Pure
