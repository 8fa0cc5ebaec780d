/- Words: the program's operations come to the same as the document's. -/
import Derived.Test.YtjlfgbaphnpbfaaDoorK35
open Go Go.Proofs Go.RowKit
namespace Go.Proofs.YtjlfgbaphnpbfaaDoor.Sx.M5
set_option linter.unusedVariables false
set_option linter.unusedSimpArgs false
theorem parts_eq {W x y : Nat} (h1 : 1 ≤ W) (h2 : W ≤ 64) (hx : x < 2 ^ W) : parts_s (W : Int) (x : Int) (y : Int) = (((if y = 0 then 2 ^ W - 1 else x / y : Nat) : Int), ((if y = 0 then x else x % y : Nat) : Int)) := by
  have hp := pow_le64 h2
  unfold parts_s
  rw [mask_eq, cw_of h1 h2]
  by_cases c : y = 0
  · subst c; simp
  · have hy : ((y : Int) == 0) = false := by simp [c]
    have hd : x / y ≤ x := Nat.div_le_self _ _
    rw [hy, if_neg c, if_neg c]
    simp only [cond_false]
    have e1 : Int.tdiv (x : Int) (y : Int) = ((x / y : Nat) : Int) := rfl
    have e2 : Int.tmod (x : Int) (y : Int) = ((x % y : Nat) : Int) := rfl
    rw [e1, e2, u64_small (Int.natCast_nonneg _) (by generalize x / y = q at hd; omega)]
theorem sar_nat {W x y : Nat} (h1 : 1 ≤ W) (h2 : W ≤ 64) (hx : x < 2 ^ W) : ∃ n : Nat, n < 2 ^ 64 ∧ n % 2 ^ W = sarN W x y ∧ shift3_s (W : Int) (y : Int) (IntKind.u64.wrap ((signN W x).fdiv (2 ^ 63))) (signN W x) = (n : Int) := by
  have hp := pow_le64 h2
  have hpos : 0 < 2 ^ W := Nat.two_pow_pos W
  have hh := half_split W h1
  have hv : (2 ^ (W - 1) : Nat) ≤ 2 ^ 63 := Nat.pow_le_pow_right (by decide) (by omega)
  have hw : IntKind.u64.wrap (W : Int) = (W : Int) := u64_small (by omega) (by omega)
  have hcast : ((2 ^ W : Nat) : Int) = (2 : Int) ^ W := by simp
  have f63 : ∀ z : Int, z.fdiv (2 ^ 63) = z / 9223372036854775808 := fun z => Int.fdiv_eq_ediv_of_nonneg _ (by decide)
  unfold shift3_s move3_s sarN signN
  rw [hw]
  by_cases c : 2 ^ (W - 1) ≤ x
  · simp only [if_pos c]
    by_cases cy : W ≤ y
    · rw [decide_eq_true (show (y : Int) ≥ W by omega), if_pos cy]
      refine ⟨2 ^ 64 - 1, by decide, ?_, ?_⟩
      · rw [all_split h2 1 (by omega), Nat.add_mul_mod_self_left, Nat.mod_eq_of_lt (by omega)]; omega
      · rw [f63, wrap_u64, ← hcast]; show _ % _ = _; omega
    · rw [decide_eq_false (show ¬ (y : Int) ≥ W by omega), if_neg cy]
      have hd : (2 ^ W - 1 - x) / 2 ^ y ≤ 2 ^ W - 1 - x := Nat.div_le_self _ _
      have e : ((x : Int) - 2 ^ W).fdiv (2 ^ min ((y : Int).toNat) 64) = -(((2 ^ W - 1 - x) / 2 ^ y : Nat) : Int) - 1 := by
        rw [Int.toNat_natCast, Nat.min_eq_left (show y ≤ 64 by omega), pow_cast y, Int.fdiv_eq_ediv_of_nonneg _ (Int.natCast_nonneg _)]
        have := neg_div (2 ^ W - 1 - x) (2 ^ y) (Nat.two_pow_pos y)
        rw [show ((x : Int) - 2 ^ W) = -((2 ^ W - 1 - x : Nat) : Int) - 1 by rw [← hcast]; omega]
        exact this
      simp only [cond_false]
      rw [e]
      generalize (2 ^ W - 1 - x) / 2 ^ y = q at hd e ⊢
      refine ⟨2 ^ 64 - (q + 1), by omega, ?_, ?_⟩
      · rw [all_split h2 _ (by omega), Nat.add_mul_mod_self_left, Nat.mod_eq_of_lt (by omega)]; omega
      · rw [wrap_u64]; omega
  · simp only [if_neg c]
    by_cases cy : W ≤ y
    · rw [decide_eq_true (show (y : Int) ≥ W by omega), if_pos cy]
      refine ⟨0, by decide, Nat.zero_mod _, ?_⟩
      rw [f63, wrap_u64]; show _ % _ = _; omega
    · rw [decide_eq_false (show ¬ (y : Int) ≥ W by omega), if_neg cy]
      have hd : x / 2 ^ y ≤ x := Nat.div_le_self _ _
      refine ⟨x / 2 ^ y, by generalize x / 2 ^ y = q at hd; omega, Nat.mod_eq_of_lt (by generalize x / 2 ^ y = q at hd; omega), ?_⟩
      simp only [cond_false]
      rw [Int.toNat_natCast, shr_nat x y (by omega), u64_small (Int.natCast_nonneg _) (by generalize x / 2 ^ y = q at hd; omega)]
/-- What the program's operation answers. -/
theorem apply1_eq (op w : Int) (x y : Nat) (hx : x < 2 ^ 64) (hy : y < 2 ^ 64) : apply1_s op w (x : Int) (y : Int) = ((applyN op (cw w) (x % 2 ^ cw w) (y % 2 ^ cw w) : Nat) : Int) := by
  obtain ⟨h1, h2⟩ := cw_range w
  have hp := pow_le64 h2
  have hpos := Nat.two_pow_pos (cw w)
  have lX := Nat.mod_lt x hpos
  have lY := Nat.mod_lt y hpos
  have hlt := apply_lt op h1 lX lY
  have cX : cut_s (width_s w) (x : Int) = ((x % 2 ^ cw w : Nat) : Int) := by rw [width_eq, cut_eq _ x hx, cw_cw]
  have cY : cut_s (width_s w) (y : Int) = ((y % 2 ^ cw w : Nat) : Int) := by rw [width_eq, cut_eq _ y hy, cw_cw]
  unfold apply1_s
  rw [cX, cY, width_eq]
  generalize x % 2 ^ cw w = X at *
  generalize y % 2 ^ cw w = Y at *
  have cC := cw_cw w
  have hsg := sign_eq (cw w : Int) X (by rw [cC]; exact lX)
  rw [cC] at hsg
  generalize hW : cw w = W at *
  have fin : ∀ (e : Int) (n : Nat), n < 2 ^ 64 → e = n → n % 2 ^ W = applyN op W X Y → cut_s (W : Int) e = ((applyN op W X Y : Nat) : Int) := fun e n hn he hm => by
    rw [he, cut_eq _ n hn, cC, hm]
  have small : applyN op W X Y % 2 ^ W = applyN op W X Y := Nat.mod_eq_of_lt hlt
  have fin' : ∀ (e : Int), e = ((applyN op W X Y : Nat) : Int) → cut_s (W : Int) e = ((applyN op W X Y : Nat) : Int) := fun e he => fin e _ (by omega) he small
  have hu : IntKind.u64.wrap (W : Int) = (W : Int) := u64_small (by omega) (by omega)
  have hpt := parts_eq h1 h2 lX (y := Y)
  have hX64 : X < 2 ^ 64 := by omega
  have hY64 : Y < 2 ^ 64 := by omega
  rcases op_cases op with rfl | rfl | rfl | rfl | rfl | rfl | rfl | rfl | rfl | rfl | rfl | rfl | rfl | rfl | rfl | ho
  · simp only [Int.reduceBEq, cond_true, cond_false, applyN, if_true, Int.reduceEq, if_false] at *
    refine fin _ (2 ^ 64 - 1 - X) (by omega) ?_ ?_
    · have := xor_nat (2 ^ 64 - 1) X (by decide) hX64
      rw [not_nat X 64 hX64] at this
      exact this
    · rw [show 2 ^ 64 - 1 - X = 2 ^ 64 - (X + 1) by omega, all_split h2 (X + 1) (by omega), Nat.add_mul_mod_self_left, Nat.mod_eq_of_lt (by omega)]
      omega
  · simp only [Int.reduceBEq, cond_true, cond_false, applyN, if_true, Int.reduceEq, if_false] at *
    refine fin _ ((X + Y) % 2 ^ 64) (Nat.mod_lt _ (by decide)) ?_ (mod_mod64 h2 _)
    rw [← Int.natCast_add, u64_nat]
  · simp only [Int.reduceBEq, cond_true, cond_false, applyN, if_true, Int.reduceEq, if_false] at *
    refine fin _ ((X + (2 ^ 64 - Y)) % 2 ^ 64) (Nat.mod_lt _ (by decide)) ?_ ?_
    · rw [wrap_u64, wrap_u64]; omega
    · rw [mod_mod64 h2, all_split h2 Y (by omega), ← Nat.add_assoc, Nat.add_mul_mod_self_left]
  · simp only [Int.reduceBEq, cond_true, cond_false, applyN, if_true, Int.reduceEq, if_false] at *
    refine fin _ (X * Y % 2 ^ 64) (Nat.mod_lt _ (by decide)) ?_ (mod_mod64 h2 _)
    rw [← Int.natCast_mul, u64_nat]
  · simp only [Int.reduceBEq, cond_true, cond_false, applyN, if_true, Int.reduceEq, if_false] at *
    rw [hpt]
    exact fin' _ rfl
  · simp only [Int.reduceBEq, cond_true, cond_false, applyN, if_true, Int.reduceEq, if_false] at *
    rw [hpt]
    exact fin' _ rfl
  · simp only [Int.reduceBEq, cond_true, cond_false, applyN, if_true, Int.reduceEq, if_false] at *
    exact fin' _ (and_nat X Y hX64 hY64)
  · simp only [Int.reduceBEq, cond_true, cond_false, applyN, if_true, Int.reduceEq, if_false] at *
    exact fin' _ (or_nat X Y hX64 hY64)
  · simp only [Int.reduceBEq, cond_true, cond_false, applyN, if_true, Int.reduceEq, if_false] at *
    exact fin' _ (xor_nat X Y hX64 hY64)
  · simp only [Int.reduceBEq, cond_true, cond_false, applyN, if_true, Int.reduceEq, if_false] at *
    unfold shift1_s move1_s
    rw [hu]
    by_cases c : W ≤ Y
    · rw [decide_eq_true (show (Y : Int) ≥ W by omega)]
      refine fin _ 0 (by decide) rfl ?_
      rw [if_pos c, Nat.zero_mod]
    · rw [decide_eq_false (show ¬ (Y : Int) ≥ W by omega)]
      simp only [cond_false]
      refine fin _ (X * 2 ^ Y % 2 ^ 64) (Nat.mod_lt _ (by decide)) ?_ ?_
      · rw [Int.toNat_natCast, shl_nat X Y (by omega)]
      · rw [if_neg c, mod_mod64 h2]
  · simp only [Int.reduceBEq, cond_true, cond_false, applyN, if_true, Int.reduceEq, if_false] at *
    unfold shift2_s move2_s
    rw [hu]
    by_cases c : W ≤ Y
    · rw [decide_eq_true (show (Y : Int) ≥ W by omega)]
      refine fin' _ ?_
      rw [if_pos c]; rfl
    · rw [decide_eq_false (show ¬ (Y : Int) ≥ W by omega)]
      refine fin' _ ?_
      rw [if_neg c]
      show (X : Int).fdiv _ = _
      rw [Int.toNat_natCast, shr_nat X Y (by omega)]
  · simp only [Int.reduceBEq, cond_true, cond_false, applyN, if_true, Int.reduceEq, if_false] at *
    rw [hsg]
    obtain ⟨n, n1, n2, n3⟩ := sar_nat (y := Y) h1 h2 lX
    exact fin _ n n1 n3 n2
  · simp only [Int.reduceBEq, cond_true, cond_false, applyN, if_true, Int.reduceEq, if_false] at *
    refine fin' _ ?_
    unfold flag_s
    by_cases c : X = Y
    · subst c; simp
    · have : ((X : Int) == (Y : Int)) = false := beq_eq_false_iff_ne.2 (by omega)
      rw [this, if_neg c]; rfl
  · simp only [Int.reduceBEq, cond_true, cond_false, applyN, if_true, Int.reduceEq, if_false] at *
    refine fin' _ ?_
    unfold flag_s
    by_cases c : X < Y
    · rw [decide_eq_true (show (X : Int) < Y by omega), if_pos c]; rfl
    · rw [decide_eq_false (show ¬ (X : Int) < Y by omega), if_neg c]; rfl
  · simp only [Int.reduceBEq, cond_true, cond_false, applyN, if_true, Int.reduceEq, if_false] at *
    refine fin' _ ?_
    have hv : (2 ^ (W - 1) : Nat) ≤ 2 ^ 63 := Nat.pow_le_pow_right (by decide) (by omega)
    have s1 : IntKind.u64.wrap (1 * 2 ^ min (((W : Int) - 1).toNat) 64) = ((2 ^ (W - 1) : Nat) : Int) := by
      have := shl_nat 1 (W - 1) (by omega)
      rw [Nat.one_mul, Nat.mod_eq_of_lt (by omega)] at this
      rw [show ((W : Int) - 1).toNat = W - 1 by omega]
      exact this
    rw [s1, xor_nat X _ hX64 (by omega), xor_nat Y _ hY64 (by omega)]
    have e3 : decide (((X ^^^ 2 ^ (W - 1) : Nat) : Int) < ((Y ^^^ 2 ^ (W - 1) : Nat) : Int)) = lessS W X Y := by
      rw [← less_xor h1 lX lY]
      exact decide_eq_decide.2 ⟨fun h => by omega, fun h => by omega⟩
    rw [e3]
    unfold flag_s
    cases lessS W X Y <;> rfl
  · obtain ⟨o5, o8, o9, o10, o11, o12, o13, o14, o15, o16, o17, o18, o19, o20, o21⟩ := ho
    have b : ∀ k : Int, op ≠ k → (op == k) = false := fun k h => by simpa using h
    simp only [b _ o5, b _ o8, b _ o9, b _ o10, b _ o11, b _ o12, b _ o13, b _ o14, b _ o15, b _ o16, b _ o17, b _ o18, b _ o19, b _ o20, b _ o21, cond_false]
    refine fin' _ ?_
    unfold applyN
    simp only [if_neg o5, if_neg o8, if_neg o9, if_neg o10, if_neg o11, if_neg o12, if_neg o13, if_neg o14, if_neg o15, if_neg o16, if_neg o17, if_neg o18, if_neg o19, if_neg o20, if_neg o21]
    rfl
/-- An operation of the program and the document's, of two words. -/
theorem word_same (op w : Int) {x y : Int} (hx : 0 ≤ x ∧ x < 18446744073709551616) (hy : 0 ≤ y ∧ y < 18446744073709551616) : apply1_s op w x y = rapp_s op w x y := by
  have h1 := apply1_eq op w x.toNat y.toNat (by omega) (by omega)
  have h2 := rapp_eq op w x.toNat y.toNat (by omega) (by omega)
  rw [Int.toNat_of_nonneg hx.1, Int.toNat_of_nonneg hy.1] at h1 h2
  rw [h1, h2]
end Go.Proofs.YtjlfgbaphnpbfaaDoor.Sx.M5
