/- Words, the plain law: what word.Apply answers, of natural numbers. -/
import Derived.Test.YtidabafobpbniaaDoorPureW
namespace Go.Proofs.YtidabafobpbniaaDoor.Pure
open Go.RowKit Go.Proofs.YtidabafobpbniaaDoor.P Go.Proofs.YtidabafobpbniaaDoorW.PrintWords Go.Proofs.YtidabafobpbniaaDoorW.PrintLast Go.Proofs.YtidabafobpbniaaDoorW.PrintMore
set_option linter.unusedVariables false
set_option linter.unusedSimpArgs false

theorem cw_cw (w : Int) : cw (cw w : Int) = cw w := by have := cw_range w; unfold cw at *; omega
theorem cw_of {W : Nat} (h1 : 1 ≤ W) (h2 : W ≤ 64) : cw (W : Int) = W := by unfold cw; omega
theorem pow_dvd64 {W : Nat} (h : W ≤ 64) : 2 ^ W ∣ 2 ^ 64 := Nat.pow_dvd_pow 2 h
theorem mod_mod64 {W : Nat} (h : W ≤ 64) (x : Nat) : x % 2 ^ 64 % 2 ^ W = x % 2 ^ W := Nat.mod_mod_of_dvd x (pow_dvd64 h)
theorem not_nat (x n : Nat) (h : x < 2 ^ n) : (2 ^ n - 1) ^^^ x = 2 ^ n - 1 - x := by
  apply Nat.eq_of_testBit_eq
  intro i
  rw [Nat.testBit_xor, show 2 ^ n - 1 - x = 2 ^ n - (x + 1) by omega, Nat.testBit_two_pow_sub_succ h, Nat.testBit_two_pow_sub_one]
  by_cases hi : i < n
  · simp [hi]
  · have : x.testBit i = false := Nat.testBit_lt_two_pow (Nat.lt_of_lt_of_le h (Nat.pow_le_pow_right (by decide) (by omega)))
    simp [hi, this]
theorem all_split {W : Nat} (h : W ≤ 64) (x : Nat) (hx : x ≤ 2 ^ W) : 2 ^ 64 - x = (2 ^ W - x) + 2 ^ W * (2 ^ (64 - W) - 1) := by
  have hp := pow_split W h
  have h2 : 0 < 2 ^ (64 - W) := Nat.two_pow_pos _
  rw [Nat.mul_sub, hp, Nat.mul_one]
  have := pow_le64 h
  omega
theorem half_xor (v x : Nat) (h : x < 2 ^ v) : x ^^^ 2 ^ v = 2 ^ v + x := by
  apply Nat.eq_of_testBit_eq
  intro i
  rw [Nat.testBit_xor, Nat.testBit_two_pow]
  by_cases a : i < v
  · rw [Nat.testBit_two_pow_add_gt a]
    have : ¬ v = i := by omega
    simp [this]
  · by_cases b : i = v
    · subst b
      rw [Nat.testBit_two_pow_add_eq]
      simp
    · have h1 : x.testBit i = false := Nat.testBit_lt_two_pow (Nat.lt_of_lt_of_le h (Nat.pow_le_pow_right (by decide) (by omega)))
      have h2 : (2 ^ v + x).testBit i = false := Nat.testBit_lt_two_pow (Nat.lt_of_lt_of_le (show 2 ^ v + x < 2 ^ (v + 1) by rw [Nat.pow_succ]; omega) (Nat.pow_le_pow_right (by decide) (by omega)))
      have : ¬ v = i := by omega
      simp [h1, h2, this]
theorem top_xor {W x : Nat} (h1 : 1 ≤ W) (h : x < 2 ^ W) : x ^^^ 2 ^ (W - 1) = if 2 ^ (W - 1) ≤ x then x - 2 ^ (W - 1) else 2 ^ (W - 1) + x := by
  have hs := half_split W h1
  split
  · rename_i c
    have e := half_xor (W - 1) (x - 2 ^ (W - 1)) (by omega)
    rw [show 2 ^ (W - 1) + (x - 2 ^ (W - 1)) = x by omega] at e
    rw [← e, Nat.xor_assoc, Nat.xor_self, Nat.xor_zero, e]
  · exact half_xor _ _ (by omega)
theorem less_xor {W x y : Nat} (h1 : 1 ≤ W) (hx : x < 2 ^ W) (hy : y < 2 ^ W) : decide (x ^^^ 2 ^ (W - 1) < y ^^^ 2 ^ (W - 1)) = lessS W x y := by
  have hs := half_split W h1
  rw [top_xor h1 hx, top_xor h1 hy]
  unfold lessS
  by_cases a : 2 ^ (W - 1) ≤ x <;> by_cases b : 2 ^ (W - 1) ≤ y
  · simp only [if_pos a, if_pos b]; congr 1; exact propext ⟨fun h => by omega, fun h => by omega⟩
  · simp only [if_pos a, if_neg b]; exact decide_eq_true (by omega)
  · simp only [if_neg a, if_pos b]; exact decide_eq_false (by omega)
  · simp only [if_neg a, if_neg b]; congr 1; exact propext ⟨fun h => by omega, fun h => by omega⟩
theorem neg_div (m b : Nat) (hb : 0 < b) : (-(m : Int) - 1) / (b : Int) = -((m / b : Nat) : Int) - 1 := by
  have h := Int.negSucc_ediv m (b := (b : Int)) (by omega)
  have e : (m : Int).ediv (b : Int) = ((m / b : Nat) : Int) := rfl
  rw [show (-(m : Int) - 1) = Int.negSucc m by omega, h, e]
  generalize m / b = q
  omega
theorem ite_lt {c : Prop} [Decidable c] {a b n : Nat} (h1 : c → a < n) (h2 : ¬ c → b < n) : (if c then a else b) < n := by
  split
  · exact h1 (by assumption)
  · exact h2 (by assumption)
theorem apply_lt (op : Int) {W x y : Nat} (h1 : 1 ≤ W) (hx : x < 2 ^ W) (hy : y < 2 ^ W) : applyN op W x y < 2 ^ W := by
  have hp : 0 < 2 ^ W := Nat.two_pow_pos W
  have h2 : 2 ≤ 2 ^ W := by have := half_split W h1; have : 0 < 2 ^ (W - 1) := Nat.two_pow_pos _; omega
  have hq : ∀ a b : Nat, a < 2 ^ W → a / b < 2 ^ W := fun a b h => Nat.lt_of_le_of_lt (Nat.div_le_self _ _) h
  have hs : sarN W x y < 2 ^ W := by
    unfold sarN
    refine ite_lt (fun _ => ?_) (fun _ => ite_lt (fun _ => hp) (fun _ => hq _ _ hx))
    exact Nat.lt_of_le_of_lt (Nat.sub_le _ _) (by omega)
  have h1' : ∀ c : Prop, ∀ _ : Decidable c, (if c then 1 else 0) < 2 ^ W := fun c _ => ite_lt (fun _ => by omega) (fun _ => hp)
  unfold applyN
  refine ite_lt (fun _ => by omega) (fun _ => ite_lt (fun _ => Nat.mod_lt _ hp) (fun _ => ite_lt (fun _ => Nat.mod_lt _ hp) (fun _ => ite_lt (fun _ => Nat.mod_lt _ hp) (fun _ => ite_lt (fun _ => ite_lt (fun _ => by omega) (fun _ => hq _ _ hx)) (fun _ => ite_lt (fun _ => ite_lt (fun _ => hx) (fun _ => Nat.lt_of_le_of_lt (Nat.mod_le _ _) hx)) (fun _ => ?_))))))
  refine ite_lt (fun _ => Nat.and_lt_two_pow _ hy) (fun _ => ite_lt (fun _ => Nat.or_lt_two_pow hx hy) (fun _ => ite_lt (fun _ => Nat.xor_lt_two_pow hx hy) (fun _ => ite_lt (fun _ => ite_lt (fun _ => hp) (fun _ => Nat.mod_lt _ hp)) (fun _ => ite_lt (fun _ => ite_lt (fun _ => hp) (fun _ => hq _ _ hx)) (fun _ => ite_lt (fun _ => hs) (fun _ => ?_))))))
  exact ite_lt (fun _ => h1' _ _) (fun _ => ite_lt (fun _ => h1' _ _) (fun _ => ite_lt (fun _ => h1' _ _) (fun _ => hp)))

theorem out_eq (op : Int) {W x y : Nat} (h1 : 1 ≤ W) (h2 : W ≤ 64) (hx : x < 2 ^ W) (hy : y < 2 ^ W) :
    ∃ n : Nat, n < 2 ^ 64 ∧ n % 2 ^ W = applyN op W x y ∧ word_out op (W : Int) (x : Int) (y : Int) ((if y = 0 then 2 ^ W - 1 else x / y : Nat) : Int) ((if y = 0 then x else x % y : Nat) : Int) = some (n : Int) := by
  have hp := pow_le64 h2
  have hpos : 0 < 2 ^ W := Nat.two_pow_pos W
  have hlt := apply_lt op h1 hx hy
  have small : applyN op W x y % 2 ^ W = applyN op W x y := Nat.mod_eq_of_lt hlt
  have hx64 : x < 2 ^ 64 := by omega
  have hy64 : y < 2 ^ 64 := by omega
  have hw : IntKind.u64.wrap (W : Int) = (W : Int) := u64_small (by omega) (by omega)
  unfold word_out
  by_cases o5 : op = 5
  · refine ⟨2 ^ 64 - 1 - x, by omega, ?_, ?_⟩
    · unfold applyN
      rw [if_pos o5, show 2 ^ 64 - 1 - x = 2 ^ 64 - (x + 1) by omega, all_split h2 (x + 1) (by omega), Nat.add_mul_mod_self_left, Nat.mod_eq_of_lt (by omega)]
      omega
    · rw [if_pos o5]
      have := xor_nat (2 ^ 64 - 1) x (by decide) hx64
      rw [not_nat x 64 hx64] at this
      exact congrArg some this
  rw [if_neg o5]
  by_cases o9 : op = 9
  · refine ⟨(x + (2 ^ 64 - y)) % 2 ^ 64, Nat.mod_lt _ (by decide), ?_, ?_⟩
    · unfold applyN
      rw [if_neg o5, if_pos o9, mod_mod64 h2, all_split h2 y (by omega), ← Nat.add_assoc, Nat.add_mul_mod_self_left]
    · rw [if_pos o9, u64_wrap, u64_wrap]
      congr 1
      omega
  rw [if_neg o9]
  by_cases o8 : op = 8
  · refine ⟨(x + y) % 2 ^ 64, Nat.mod_lt _ (by decide), ?_, ?_⟩
    · unfold applyN; rw [if_neg o5, if_neg o9, if_pos o8, mod_mod64 h2]
    · rw [if_pos o8, ← Int.natCast_add, u64_nat]
  rw [if_neg o8]
  by_cases o10 : op = 10
  · refine ⟨x * y % 2 ^ 64, Nat.mod_lt _ (by decide), ?_, ?_⟩
    · unfold applyN; rw [if_neg o5, if_neg o9, if_neg o8, if_pos o10, mod_mod64 h2]
    · rw [if_pos o10, ← Int.natCast_mul, u64_nat]
  rw [if_neg o10]
  by_cases o11 : op = 11
  · refine ⟨applyN op W x y, by omega, small, ?_⟩
    unfold applyN; rw [if_neg o5, if_neg o9, if_neg o8, if_neg o10, if_pos o11, if_pos o11]
  rw [if_neg o11]
  by_cases o12 : op = 12
  · refine ⟨applyN op W x y, by omega, small, ?_⟩
    unfold applyN; rw [if_neg o5, if_neg o9, if_neg o8, if_neg o10, if_neg o11, if_pos o12, if_pos o12]
  rw [if_neg o12]
  by_cases o13 : op = 13
  · refine ⟨applyN op W x y, by omega, small, ?_⟩
    unfold applyN; rw [if_neg o5, if_neg o9, if_neg o8, if_neg o10, if_neg o11, if_neg o12, if_pos o13, if_pos o13, and_nat x y hx64 hy64]
  rw [if_neg o13]
  by_cases o14 : op = 14
  · refine ⟨applyN op W x y, by omega, small, ?_⟩
    unfold applyN; rw [if_neg o5, if_neg o9, if_neg o8, if_neg o10, if_neg o11, if_neg o12, if_neg o13, if_pos o14, if_pos o14, or_nat x y hx64 hy64]
  rw [if_neg o14]
  by_cases o15 : op = 15
  · refine ⟨applyN op W x y, by omega, small, ?_⟩
    unfold applyN; rw [if_neg o5, if_neg o9, if_neg o8, if_neg o10, if_neg o11, if_neg o12, if_neg o13, if_neg o14, if_pos o15, if_pos o15, xor_nat x y hx64 hy64]
  rw [if_neg o15]
  by_cases o16 : op = 16
  · rw [if_pos o16, hw]
    by_cases c : W ≤ y
    · refine ⟨0, by decide, ?_, ?_⟩
      · unfold applyN; rw [if_neg o5, if_neg o9, if_neg o8, if_neg o10, if_neg o11, if_neg o12, if_neg o13, if_neg o14, if_neg o15, if_pos o16, if_pos c, Nat.zero_mod]
      · rw [if_pos (by omega)]; rfl
    · refine ⟨x * 2 ^ y % 2 ^ 64, Nat.mod_lt _ (by decide), ?_, ?_⟩
      · unfold applyN; rw [if_neg o5, if_neg o9, if_neg o8, if_neg o10, if_neg o11, if_neg o12, if_neg o13, if_neg o14, if_neg o15, if_pos o16, if_neg c, mod_mod64 h2]
      · rw [if_neg (by omega), shl_nat x y (by omega)]
  rw [if_neg o16]
  by_cases o17 : op = 17
  · refine ⟨applyN op W x y, by omega, small, ?_⟩
    unfold applyN; rw [if_neg o5, if_neg o9, if_neg o8, if_neg o10, if_neg o11, if_neg o12, if_neg o13, if_neg o14, if_neg o15, if_neg o16, if_pos o17, if_pos o17, hw]
    by_cases c : W ≤ y
    · rw [if_pos c, if_pos (by omega)]; rfl
    · rw [if_neg c, if_neg (by omega), shr_nat x y (by omega)]
  rw [if_neg o17]
  by_cases o18 : op = 18
  · rw [if_pos o18]
    have hsg := sign_eq (W : Int) x (by rw [cw_of h1 h2]; exact hx)
    rw [cw_of h1 h2] at hsg
    rw [hsg, hw]
    simp only [Option.bind_some]
    have hh := half_split W h1
    have hv : (2 ^ (W - 1) : Nat) ≤ 2 ^ 63 := Nat.pow_le_pow_right (by decide) (by omega)
    have hap : applyN op W x y = sarN W x y := by unfold applyN; rw [if_neg o5, if_neg o9, if_neg o8, if_neg o10, if_neg o11, if_neg o12, if_neg o13, if_neg o14, if_neg o15, if_neg o16, if_neg o17, if_pos o18]
    rw [hap]
    unfold sarN signN
    have hcast : ((2 ^ W : Nat) : Int) = (2 : Int) ^ W := by simp
    by_cases c : 2 ^ (W - 1) ≤ x
    · simp only [if_pos c]
      by_cases cy : W ≤ y
      · rw [if_pos (show (y : Int) ≥ W by omega), if_pos cy]
        refine ⟨2 ^ 64 - 1, by decide, ?_, ?_⟩
        · rw [all_split h2 1 (by omega), Nat.add_mul_mod_self_left, Nat.mod_eq_of_lt (by omega)]; omega
        · rw [u64_wrap]; congr 1; rw [← hcast]; omega
      · rw [if_neg (show ¬ (y : Int) ≥ W by omega), if_neg cy]
        have hd : (2 ^ W - 1 - x) / 2 ^ y ≤ 2 ^ W - 1 - x := Nat.div_le_self _ _
        have e : shr .i64 ((x : Int) - 2 ^ W) (y : Int) = -(((2 ^ W - 1 - x) / 2 ^ y : Nat) : Int) - 1 := by
          unfold shr
          rw [Int.toNat_natCast, Nat.min_eq_left (show y ≤ IntKind.i64.bits by show y ≤ 64; omega)]
          have := neg_div (2 ^ W - 1 - x) (2 ^ y) (Nat.two_pow_pos y)
          rw [show ((x : Int) - 2 ^ W) = -((2 ^ W - 1 - x : Nat) : Int) - 1 by rw [← hcast]; omega]
          rw [← this]
          simp
        rw [e]
        generalize (2 ^ W - 1 - x) / 2 ^ y = q at hd e ⊢
        refine ⟨2 ^ 64 - (q + 1), by omega, ?_, ?_⟩
        · rw [all_split h2 _ (by omega), Nat.add_mul_mod_self_left, Nat.mod_eq_of_lt (by omega)]; omega
        · rw [u64_wrap]; congr 1; omega
    · simp only [if_neg c]
      by_cases cy : W ≤ y
      · rw [if_pos (show (y : Int) ≥ W by omega), if_pos cy]
        refine ⟨0, by decide, Nat.zero_mod _, ?_⟩
        rw [u64_wrap]; congr 1; omega
      · rw [if_neg (show ¬ (y : Int) ≥ W by omega), if_neg cy]
        have hd : x / 2 ^ y ≤ x := Nat.div_le_self _ _
        refine ⟨x / 2 ^ y, by generalize x / 2 ^ y = q at hd; omega, Nat.mod_eq_of_lt (by generalize x / 2 ^ y = q at hd; omega), ?_⟩
        have e : shr .i64 (x : Int) (y : Int) = ((x / 2 ^ y : Nat) : Int) := by
          unfold shr
          rw [Int.toNat_natCast, Nat.min_eq_left (show y ≤ IntKind.i64.bits by show y ≤ 64; omega)]
          simp
        rw [e, u64_small (Int.natCast_nonneg _) (by generalize x / 2 ^ y = q at hd; omega)]
  rw [if_neg o18]
  by_cases o19 : op = 19
  · refine ⟨applyN op W x y, by omega, small, ?_⟩
    unfold applyN; rw [if_neg o5, if_neg o9, if_neg o8, if_neg o10, if_neg o11, if_neg o12, if_neg o13, if_neg o14, if_neg o15, if_neg o16, if_neg o17, if_neg o18, if_pos o19, if_pos o19, flag_eq]
    by_cases c : x = y
    · simp [c]
    · have : ¬ (x : Int) = (y : Int) := by omega
      simp [c, this]
  rw [if_neg o19]
  by_cases o21 : op = 21
  · refine ⟨applyN op W x y, by omega, small, ?_⟩
    unfold applyN; rw [if_neg o5, if_neg o9, if_neg o8, if_neg o10, if_neg o11, if_neg o12, if_neg o13, if_neg o14, if_neg o15, if_neg o16, if_neg o17, if_neg o18, if_neg o19, if_pos o21, if_pos o21]
    have e : wrap64 ((W : Int) - 1) = ((W - 1 : Nat) : Int) := by unfold wrap64; omega
    have hv : (2 ^ (W - 1) : Nat) ≤ 2 ^ 63 := Nat.pow_le_pow_right (by decide) (by omega)
    have s1 : shl .u64 1 ((W - 1 : Nat) : Int) = ((2 ^ (W - 1) : Nat) : Int) := by
      have := shl_nat 1 (W - 1) (by omega)
      rw [Nat.one_mul, Nat.mod_eq_of_lt (by omega)] at this
      exact this
    rw [e, if_pos (Int.natCast_nonneg _), s1, xor_nat x _ hx64 (by omega), xor_nat y _ hy64 (by omega), flag_eq, ← less_xor h1 hx hy]
    have e3 : decide (((x ^^^ 2 ^ (W - 1) : Nat) : Int) < ((y ^^^ 2 ^ (W - 1) : Nat) : Int)) = decide (x ^^^ 2 ^ (W - 1) < y ^^^ 2 ^ (W - 1)) := by congr 1; exact propext ⟨fun h => by omega, fun h => by omega⟩
    rw [e3]
    split <;> rfl
  rw [if_neg o21]
  by_cases o20 : op = 20
  · refine ⟨applyN op W x y, by omega, small, ?_⟩
    unfold applyN; rw [if_neg o5, if_neg o9, if_neg o8, if_neg o10, if_neg o11, if_neg o12, if_neg o13, if_neg o14, if_neg o15, if_neg o16, if_neg o17, if_neg o18, if_neg o19, if_neg o21, if_pos o20, if_pos o20, flag_eq]
    by_cases c : x < y
    · have : (x : Int) < (y : Int) := by omega
      simp [c, this]
    · have : ¬ (x : Int) < (y : Int) := by omega
      simp [c, this]
  rw [if_neg o20]
  refine ⟨0, by decide, ?_, rfl⟩
  unfold applyN; rw [if_neg o5, if_neg o9, if_neg o8, if_neg o10, if_neg o11, if_neg o12, if_neg o13, if_neg o14, if_neg o15, if_neg o16, if_neg o17, if_neg o18, if_neg o19, if_neg o21, if_neg o20, Nat.zero_mod]

theorem parts_eq {W x y : Nat} (h1 : 1 ≤ W) (h2 : W ≤ 64) (hx : x < 2 ^ W) : word_parts.f (W : Int) (x : Int) (y : Int) = some (((if y = 0 then 2 ^ W - 1 else x / y : Nat) : Int), ((if y = 0 then x else x % y : Nat) : Int)) := by
  have hp := pow_le64 h2
  unfold word_parts.f
  rw [mask_eq, cw_of h1 h2]
  by_cases c : y = 0
  · subst c; simp
  · have : ¬ (y : Int) = 0 := by omega
    have hd : x / y ≤ x := Nat.div_le_self _ _
    rw [if_neg this, if_neg c, if_neg c]
    have e1 : Int.tdiv (x : Int) (y : Int) = ((x / y : Nat) : Int) := rfl
    have e2 : Int.tmod (x : Int) (y : Int) = ((x % y : Nat) : Int) := rfl
    rw [e1, e2, u64_small (Int.natCast_nonneg _) (by generalize x / y = q at hd; omega)]
/-- What word.Apply answers. -/
theorem apply_eq (op w : Int) (x y : Nat) (hx : x < 2 ^ 64) (hy : y < 2 ^ 64) : word_Apply.f op w (x : Int) (y : Int) = some ((applyN op (cw w) (x % 2 ^ cw w) (y % 2 ^ cw w) : Nat) : Int) := by
  have hr := cw_range w
  have hpos : 0 < 2 ^ cw w := Nat.two_pow_pos _
  unfold word_Apply.f
  rw [width_eq]
  simp only [Option.bind_some]
  rw [cut_eq _ x hx, cut_eq _ y hy, cw_cw]
  simp only [Option.bind_some]
  rw [if_pos (Int.natCast_nonneg _), parts_eq hr.1 hr.2 (Nat.mod_lt _ hpos)]
  simp only [Option.bind_some]
  obtain ⟨n, h1, h2, h3⟩ := out_eq op hr.1 hr.2 (Nat.mod_lt x hpos) (Nat.mod_lt y hpos)
  rw [h3]
  simp only [Option.bind_some]
  rw [cut_eq _ n h1, cw_cw, h2]

end Go.Proofs.YtidabafobpbniaaDoor.Pure
