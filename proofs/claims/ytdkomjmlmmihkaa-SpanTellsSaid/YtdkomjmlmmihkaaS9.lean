/- SpanTells: both tables are the same. -/
import Derived.Test.YtdkomjmlmmihkaaS8
open Go Go.Proofs Go.RowKit
namespace Go.Proofs.Ytdkomjmlmmihkaa.Sx.M5
set_option linter.unusedVariables false
set_option linter.unusedSimpArgs false
section
variable {w m a b c e : Int} {W : Nat}
theorem t8 (F : Fit w m a b c e W) : sbo1_s w a b c e w = pick (rsum_s 8 m a b c e) m := by
  obtain ⟨hw, lo, hi, hm, ha, ab, hb, hc, ce, he⟩ := F
  have F : Fit w m a b c e W := ⟨hw, lo, hi, hm, ha, ab, hb, hc, ce, he⟩
  have h64 := F.m64
  have e1 := sadd_eq F.cw hi F.mask hm (x := a) (y := c) (by omega) (by omega)
  have e2 := sadd_eq F.cw hi F.mask hm (x := b) (y := e) (by omega) (by omega)
  unfold sbo1_s stb1_s stb2_s whol_s pick rsum_s
  simp only [Int.reduceBEq, cond_true, cond_false]
  rw [e1, e2, F.mask, rove_eq h64.2 (by omega) (by omega), rove_eq h64.2 (by omega) (by omega)]
  by_cases h1 : b + e ≤ m
  · rw [if_pos h1, if_pos (show a + c ≤ m by omega), decide_eq_false (show ¬ b + e > m by omega)]
    have := srig_in (w := w) (a := a + c) (b := b + e) (by omega) (by rw [F.mask]; exact h1)
    simp only [bne_self_eq_false, cond_false, Bool.not_false, cond_true, Bool.not_true]
    rw [this, u64_small (by omega) (by omega), u64_small (by omega) (by omega)]
  · rw [if_neg h1, decide_eq_true (show b + e > m by omega)]
    by_cases h2 : a + c ≤ m
    · rw [if_pos h2, decide_eq_false (show ¬ a + c > m by omega)]
      rfl
    · rw [if_neg h2, decide_eq_true (show a + c > m by omega)]
      have := srig_in (w := w) (a := a + c - (m + 1)) (b := b + e - (m + 1)) (by omega) (by rw [F.mask]; omega)
      simp only [bne_self_eq_false, cond_false, Bool.not_false, cond_true, Bool.not_true]
      rw [this, u64_small (n := m - c) (by omega) (by omega), u64_small (n := m - e) (by omega) (by omega)]
      refine Prod.ext ?_ ?_
      · show a + c - (m + 1) = IntKind.u64.wrap (IntKind.u64.wrap (a - (m - c)) - 1)
        rw [u64_small (n := a - (m - c)) (by omega) (by omega), u64_small (by omega) (by omega)]; omega
      · show b + e - (m + 1) = IntKind.u64.wrap (IntKind.u64.wrap (b - (m - e)) - 1)
        rw [u64_small (n := b - (m - e)) (by omega) (by omega), u64_small (by omega) (by omega)]; omega
theorem t9 (F : Fit w m a b c e W) : sbo2_s w a b c e w = pick (rsum_s 9 m a b c e) m := by
  obtain ⟨hw, lo, hi, hm, ha, ab, hb, hc, ce, he⟩ := F
  have F : Fit w m a b c e W := ⟨hw, lo, hi, hm, ha, ab, hb, hc, ce, he⟩
  have h64 := F.m64
  have e1 := stak_eq F.cw hi hm (x := a) (y := e) (by omega) (by omega)
  have e2 := stak_eq F.cw hi hm (x := b) (y := c) (by omega) (by omega)
  unfold sbo2_s stb3_s stb4_s whol_s pick rsum_s
  simp only [Int.reduceBEq, cond_true, cond_false]
  rw [e1, e2, F.mask]
  by_cases h1 : e ≤ a
  · rw [if_neg (show ¬ e > a by omega), if_neg (show ¬ c > b by omega), decide_eq_true h1]
    have := srig_in (w := w) (a := a - e) (b := b - c) (by omega) (by rw [F.mask]; omega)
    simp only [bne_self_eq_false, cond_false, Bool.not_false, cond_true, Bool.not_true]
    rw [this, u64_small (by omega) (by omega), u64_small (by omega) (by omega)]
  · rw [if_pos (show e > a by omega), decide_eq_false h1]
    by_cases h2 : b < c
    · rw [if_pos (show c > b by omega), decide_eq_true h2]
      have := srig_in (w := w) (a := a - e + (m + 1)) (b := b - c + (m + 1)) (by omega) (by rw [F.mask]; omega)
      simp only [bne_self_eq_false, cond_false, Bool.not_false, cond_true, Bool.not_true]
      rw [this, u64_small (n := e - a) (by omega) (by omega), u64_small (n := c - b) (by omega) (by omega)]
      refine Prod.ext ?_ ?_
      · show a - e + (m + 1) = IntKind.u64.wrap (IntKind.u64.wrap (m - (e - a)) + 1)
        rw [u64_small (n := m - (e - a)) (by omega) (by omega), u64_small (by omega) (by omega)]; omega
      · show b - c + (m + 1) = IntKind.u64.wrap (IntKind.u64.wrap (m - (c - b)) + 1)
        rw [u64_small (n := m - (c - b)) (by omega) (by omega), u64_small (by omega) (by omega)]; omega
    · rw [if_neg (show ¬ c > b by omega), decide_eq_false h2]
      rfl
theorem t10 (F : Fit w m a b c e W) : (bif (stim_s w b e).2 then (IntKind.u64.wrap (a * c), (stim_s w b e).1) else ((whol_s w).1, (whol_s w).2)) = pick (rsum_s 10 m a b c e) m := by
  obtain ⟨hw, lo, hi, hm, ha, ab, hb, hc, ce, he⟩ := F
  have F : Fit w m a b c e W := ⟨hw, lo, hi, hm, ha, ab, hb, hc, ce, he⟩
  have h64 := F.m64
  rw [stim_eq F.mask h64.2 (by omega) (by omega)]
  unfold whol_s pick rsum_s
  simp only [Int.reduceBEq, cond_true, cond_false]
  rw [F.mask, rfit_eq (by omega) (by omega) (by omega), wrap_u64 (b * e)]
  cases decide (b * e ≤ m) <;> rfl
theorem t11 (F : Fit w m a b c e W) : sdiv_s 11 w a b c e = pick (rpar_s 11 a b c e) m := by
  unfold sdiv_s rpar_s whol_s pick
  rw [F.mask]
  simp only [Int.reduceBEq, cond_true, cond_false, bne]
  cases (c == (0 : Int)) <;> rfl
theorem t12 (F : Fit w m a b c e W) : sdiv_s 12 w a b c e = pick (rpar_s 12 a b c e) m := by
  unfold sdiv_s rpar_s whol_s pick
  simp only [Int.reduceBEq, cond_true, cond_false, rsma_eq]
  cases decide (b < c) <;> cases (c != (0 : Int)) <;> rfl
theorem t13 : ((0 : Int), (min b e)) = pick (rpar_s 13 a b c e) m := by
  unfold rpar_s pick
  simp only [Int.reduceBEq, cond_true, cond_false, rsma_eq, Bool.not_true]
theorem t14 (F : Fit w m a b c e W) : ((max a c), (sful_s b e)) = pick (rpar_s 14 a b c e) m := by
  have h64 := F.m64
  obtain ⟨hw, lo, hi, hm, ha, ab, hb, hc, ce, he⟩ := F
  unfold rpar_s pick
  rw [full_same (by omega) (by omega)]
  simp only [Int.reduceBEq, cond_true, cond_false, rgre_eq, Bool.not_true]
theorem t15 (F : Fit w m a b c e W) : ((0 : Int), (sful_s b e)) = pick (rpar_s 15 a b c e) m := by
  have h64 := F.m64
  obtain ⟨hw, lo, hi, hm, ha, ab, hb, hc, ce, he⟩ := F
  unfold rpar_s pick
  rw [full_same (by omega) (by omega)]
  simp only [Int.reduceBEq, cond_true, cond_false, Bool.not_true]
theorem t16 (F : Fit w m a b c e W) : smov_s 16 w a b c e = pick (rshi_s 16 w m a b c e) m := by
  have h64 := F.m64
  have hmask := F.mask
  obtain ⟨hw, lo, hi, hm, ha, ab, hb, hc, ce, he⟩ := F
  unfold smov_s rshi_s whol_s pick
  simp only [Int.reduceBEq, cond_true, cond_false]
  rw [hmask]
  by_cases h : e < IntKind.u64.wrap w
  · rw [decide_eq_true h]
    have hew : e < W := by rw [hw, u64_small (by omega) (by omega)] at h; exact h
    obtain ⟨E, rfl⟩ : ∃ E : Nat, e = E := ⟨e.toNat, by omega⟩
    obtain ⟨C, rfl⟩ : ∃ C : Nat, c = C := ⟨c.toNat, by omega⟩
    have pw : ∀ k : Nat, k < 64 → (2 : Int) ^ k < 18446744073709551616 := fun k hk => by
      have : (2 : Nat) ^ k ≤ 2 ^ 63 := Nat.pow_le_pow_right (by decide) (by omega)
      rw [pow_cast]; omega
    have hE := pw E (by omega)
    have gE := pow_ge1 E
    have gC := pow_ge1 C
    rw [rtwo_eq (show E < 64 by omega), rtwo_eq (show C < 64 by omega)]
    simp only [Int.toNat_natCast, Int.one_mul]
    rw [Nat.min_eq_left (show E ≤ 64 by omega), Nat.min_eq_left (show C ≤ 64 by omega), u64_small (n := (2 : Int) ^ E) (by omega) hE, stim_eq hmask h64.2 (by omega) (by omega), rfit_eq (by omega) (by omega) (by omega), Int.mul_comm (2 ^ E) b, wrap_u64 (b * 2 ^ E)]
    simp only [cond_true]
    cases decide (b * 2 ^ E ≤ m) <;> rfl
  · rw [decide_eq_false h]
    rfl
theorem t17 (F : Fit w m a b c e W) : smov_s 17 w a b c e = pick (rshi_s 17 w m a b c e) m := by
  obtain ⟨hw, lo, hi, hm, ha, ab, hb, hc, ce, he⟩ := F
  unfold smov_s rshi_s pick
  simp only [Int.reduceBEq, cond_true, cond_false, Bool.not_true]
  rw [down_same hw lo hi (by omega) (by omega), down_same hw lo hi (by omega) (by omega)]
theorem t18 (F : Fit w m a b c e W) : smov_s 18 w a b c e = pick (rshi_s 18 w m a b c e) m := by
  have hmask := F.mask
  obtain ⟨hw, lo, hi, hm, ha, ab, hb, hc, ce, he⟩ := F
  unfold smov_s rshi_s pick whol_s
  simp only [Int.reduceBEq, cond_true, cond_false, Bool.not_true]
  rw [down_same hw lo hi (by omega) (by omega), down_same hw lo hi (by omega) (by omega), hmask]
  cases decide (b > IntKind.u64.wrap (m.tdiv 2)) <;> rfl
theorem t19 : (bif decide (b < c) then ((stru_s false true).1, (stru_s false true).2) else ((stru_s false (decide (e < a))).1, (stru_s false (decide (e < a))).2)) = trOf (rtrs_s 19 m a b c e) := by
  unfold rtrs_s trOf
  simp only [Int.reduceBEq, cond_true, cond_false]
  cases decide (b < c) <;> cases decide (e < a) <;> rfl
theorem ord_same : stru_s (decide (b < c)) (decide (a ≥ e)) = trOf (rord_s a b c e) := by
  unfold rord_s trOf
  cases decide (b < c) <;> cases decide (a ≥ e) <;> rfl
theorem t20 : stru_s (decide (b < c)) (decide (a ≥ e)) = trOf (rtrs_s 20 m a b c e) := by
  unfold rtrs_s
  simp only [Int.reduceBEq, cond_true, cond_false]
  exact ord_same
theorem t21 (F : Fit w m a b c e W) : sbel_s w a b c e = trOf (rtrs_s 21 m a b c e) := by
  have hmask := F.mask
  have h64 := F.m64
  obtain ⟨hw, lo, hi, hm, ha, ab, hb, hc, ce, he⟩ := F
  have hh : IntKind.u64.wrap (m.tdiv 2) = m / 2 := by rw [Int.tdiv_eq_ediv_of_nonneg (by omega), u64_small (by omega) (by omega)]
  have htop : IntKind.u64.wrap (m - m / 2) = m / 2 + 1 := by
    obtain ⟨k, hk⟩ : ∃ k, W = k + 1 := ⟨W - 1, by omega⟩
    have := pow_ge1 k
    rw [hk, Int.pow_succ] at hm
    rw [u64_small (by omega) (by omega)]; omega
  unfold sbel_s rtrs_s sbe1_s sbe2_s
  simp only [Int.reduceBEq, cond_true, cond_false]
  rw [hmask, hh, htop]
  have l1 : decide (b < m / 2 + 1) = decide (b ≤ m / 2) := decide_eq_decide.2 (by omega)
  have l2 : decide (e < m / 2 + 1) = decide (e ≤ m / 2) := decide_eq_decide.2 (by omega)
  have u1 : decide (a ≥ m / 2 + 1) = decide (a > m / 2) := decide_eq_decide.2 (by omega)
  have u2 : decide (c ≥ m / 2 + 1) = decide (c > m / 2) := decide_eq_decide.2 (by omega)
  rw [l1, l2, u1, u2]
  have x1 : decide (b ≤ m / 2) = true → decide (a > m / 2) = false := fun h => decide_eq_false (by have := of_decide_eq_true h; omega)
  have x2 : decide (e ≤ m / 2) = true → decide (c > m / 2) = false := fun h => decide_eq_false (by have := of_decide_eq_true h; omega)
  have o := ord_same (a := a) (b := b) (c := c) (e := e)
  cases p1 : decide (b ≤ m / 2) <;> cases p2 : decide (e ≤ m / 2) <;> cases p3 : decide (a > m / 2) <;> cases p4 : decide (c > m / 2) <;> first
    | exact o
    | rfl
    | (have := x1 p1; rw [p3] at this; cases this)
    | (have := x2 p2; rw [p4] at this; cases this)
end
end Go.Proofs.Ytdkomjmlmmihkaa.Sx.M5
