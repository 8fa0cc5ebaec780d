/- KnownTells: sums and products: the lowest bits that are known. -/
import Derived.Test.YtjlfgbaphnpbfaaDoorK13
open Go Go.Proofs Go.RowKit
namespace Go.Proofs.YtjlfgbaphnpbfaaDoor.Sx.M5
set_option linter.unusedVariables false
set_option linter.unusedSimpArgs false
theorem tz_is (x : Nat) (hx : x < 2 ^ 64) : tz_s (x : Int) = ((Lib.ctz 64 x : Nat) : Int) := by
  rw [tz_def]
  by_cases c : x = 0
  · rw [c]; rfl
  · rw [show (((x : Nat) : Int) == (0 : Int)) = false from beq_eq_false_iff_ne.2 (by omega), cond_false]
    obtain ⟨hlow, hk⟩ := Lib.lowest_bit 64 x c hx
    obtain ⟨hi, htab⟩ := Lib.deBruijn64_at _ hk
    have e : tzi (x : Int) = ((2 ^ Lib.ctz 64 x * 285870213051353865 % 18446744073709551616 / 288230376151711744 : Nat) : Int) := by
      have k := tz64_key x _ hx c hlow
      unfold tzi
      rw [show (0 : Int) - (x : Int) = -(x : Int) by omega, Int.fdiv_eq_ediv_of_nonneg _ (by decide)]
      exact k
    rw [e, Int.toNat_natCast, htab, IntKind.wrap_i64]
    generalize Lib.ctz 64 x = k at *
    omega
def lowN (y : Nat) : Nat := Lib.ctz 64 ((2 ^ 64 - 1) ^^^ y)
theorem klow_is {z e : Nat} (w : Int) (hz : z < 2 ^ 64) (he : e < 2 ^ 64) : klow_s (z : Int) (e : Int) w = ((lowN (z ||| e) : Nat) : Int) := by
  have l : z ||| e < 2 ^ 64 := Nat.or_lt_two_pow hz he
  unfold klow_s kall_s lowN
  rw [or_nat _ _ hz he, show IntKind.u64.max = ((2 ^ 64 - 1 : Nat) : Int) from rfl, xor_nat _ _ (by omega) l, tz_is _ (Nat.xor_lt_two_pow (by omega) l)]
theorem low_spec {y : Nat} (hy : y < 2 ^ 64) : (∀ i, i < lowN y → y.testBit i = true) ∧ (lowN y < 64 → y.testBit (lowN y) = false) := by
  have bits : ∀ i, (2 ^ 64 - 1 - y).testBit i = (decide (i < 64) && !y.testBit i) := fun i => by rw [← notN_eq hy, notN_bit]
  unfold lowN
  rw [not_nat _ _ hy]
  unfold Lib.ctz
  by_cases c : 2 ^ 64 - 1 - y = 0
  · rw [if_pos c]
    refine ⟨fun i hi => ?_, fun h => absurd h (Nat.lt_irrefl _)⟩
    have := bits i
    rw [c, Nat.zero_testBit, decide_eq_true hi, Bool.true_and] at this
    simpa using this.symm
  · rw [if_neg c]
    obtain ⟨m, e, hk⟩ := Lib.ctzFrom_spec 64 (2 ^ 64 - 1 - y) (by omega) (by omega)
    generalize Lib.ctzFrom 64 (2 ^ 64 - 1 - y) = k at *
    refine ⟨fun i hi => ?_, fun _ => ?_⟩
    · have := bits i
      rw [e, Nat.testBit_two_pow_mul, decide_eq_false (by omega), Bool.false_and, decide_eq_true (show i < 64 by omega), Bool.true_and] at this
      simpa using this.symm
    · have := bits k
      rw [e, Nat.testBit_two_pow_mul, decide_eq_true (Nat.le_refl _), Bool.true_and, Nat.sub_self, decide_eq_true hk, Bool.true_and] at this
      have o : (2 * m + 1).testBit 0 = true := by simp [Nat.testBit_zero]
      rw [o] at this
      simpa using this.symm
theorem pt_two {Z O j : Nat} : pt Z O j ≠ 2 ↔ (Z ||| O).testBit j = true := by
  unfold pt
  rw [Nat.testBit_or]
  cases O.testBit j <;> cases Z.testBit j <;> simp
section
variable {W Z O Y P : Nat} {x y : Nat → Int}
/-- What is known of an answer whose word is known. -/
theorem word_row {n : Nat} (h1 : 1 ≤ n) (h2 : n ≤ 64) {v : Nat} (hv : v < 2 ^ 64) {r : Nat → Int} {k : Int × Int} (hr : r = qwrd_s (n : Int) (v : Int)) (hk : k = ((kof_s (n : Int) (v : Int)).1, (kof_s (n : Int) (v : Int)).2)) :
    ∃ A B : Nat, k = ((A : Int), (B : Int)) ∧ RowIs r A B ∧ OkB n A B := by
  refine ⟨2 ^ n - 1 - v % 2 ^ n, v % 2 ^ n, ?_, ?_, of_ok n (Nat.mod_lt _ (Nat.two_pow_pos n))⟩
  · rw [hk, kof_eq _ hv, cw_of h1 h2]
  · rw [hr]; exact qwrd_is rfl h2 hv rfl
theorem OkB.mono {n : Nat} {A B : Nat} (h : OkB n A B) (hn : n ≤ W) : OkB W A B :=
  ⟨Nat.lt_of_lt_of_le h.lz (Nat.pow_le_pow_right (by decide) hn), Nat.lt_of_lt_of_le h.lo (Nat.pow_le_pow_right (by decide) hn), h.dj⟩
theorem sum_row (op : Int) (hW1 : 1 ≤ W) (hW : W ≤ 64) (h1 : OkB W Z O) (h2 : RowIs x Z O) (h3 : OkB W Y P) (h4 : RowIs y Y P) :
    ∃ A B : Nat, ksum_s (Z : Int) (O : Int) (W : Int) (Y : Int) (P : Int) (W : Int) op = ((A : Int), (B : Int)) ∧ RowIs (qsum_s op (W : Int) x y) A B ∧ OkB W A B := by
  have z64 := h1.z64 hW
  have o64 := h1.o64 hW
  have y64 := h3.z64 hW
  have p64 := h3.o64 hW
  have lx : Z ||| O < 2 ^ 64 := Nat.or_lt_two_pow z64 o64
  have ly : Y ||| P < 2 ^ 64 := Nat.or_lt_two_pow y64 p64
  obtain ⟨sx1, sx2⟩ := low_spec lx
  obtain ⟨sy1, sy2⟩ := low_spec ly
  have hl : min (min (klow_s (Z : Int) (O : Int) (W : Int)) (klow_s (Y : Int) (P : Int) (W : Int))) (W : Int) = ((min (min (lowN (Z ||| O)) (lowN (Y ||| P))) W : Nat) : Int) := by
    rw [klow_is _ z64 o64, klow_is _ y64 p64]; omega
  unfold ksum_s
  rw [hl]
  have low : ∀ i, i < min (min (lowN (Z ||| O)) (lowN (Y ||| P))) W → x i ≠ 2 ∧ y i ≠ 2 := fun i hi => by
    rw [h2 i (by omega), h4 i (by omega)]
    exact ⟨pt_two.2 (sx1 i (by omega)), pt_two.2 (sy1 i (by omega))⟩
  have top : min (min (lowN (Z ||| O)) (lowN (Y ||| P))) W < W → ¬ (x (min (min (lowN (Z ||| O)) (lowN (Y ||| P))) W) ≠ 2 ∧ y (min (min (lowN (Z ||| O)) (lowN (Y ||| P))) W) ≠ 2) := fun hn => by
    rw [h2 _ (by omega), h4 _ (by omega), pt_two, pt_two]
    rintro ⟨e1, e2⟩
    rcases Nat.le_total (lowN (Z ||| O)) (lowN (Y ||| P)) with c | c
    · have e : min (min (lowN (Z ||| O)) (lowN (Y ||| P))) W = lowN (Z ||| O) := by omega
      rw [e] at e1
      rw [sx2 (by omega)] at e1; cases e1
    · have e : min (min (lowN (Z ||| O)) (lowN (Y ||| P))) W = lowN (Y ||| P) := by omega
      rw [e] at e2
      rw [sy2 (by omega)] at e2; cases e2
  have nW : min (min (lowN (Z ||| O)) (lowN (Y ||| P))) W ≤ W := Nat.min_le_right _ _
  clear hl sx1 sx2 sy1 sy2
  generalize min (min (lowN (Z ||| O)) (lowN (Y ||| P))) W = n at *
  have key : ∀ (m i : Nat), i ≤ n → W - i < m → qsum_l0 op (W : Int) x y m (i : Int) = (bif (n : Int) == (0 : Int) then qnon_s else (qwrd_s (n : Int) (rapp_s op (n : Int) ((qnum_s (n : Int) x).1) ((qnum_s (n : Int) y).1)))) := by
    intro m
    induction m with
    | zero => intro i _ hm; exact absurd hm (Nat.not_lt_zero _)
    | succ m ih =>
      intro i hi hm
      rw [qsum_l0]
      by_cases c : i = n
      · rw [c]
        by_cases d : (n : Int) < (W : Int)
        · rw [decide_eq_true d, Int.toNat_natCast]
          simp only [cond_true]
          have t := top (Int.ofNat_lt.1 d)
          by_cases e : x n = 2
          · rw [show (x n != 2) = false from bne_eq_false_iff_eq.2 e]; rfl
          · rw [show (x n != 2) = true from bne_iff_ne.2 e]
            have e2 : y n = 2 := Classical.byContradiction fun h => t ⟨e, h⟩
            rw [show (y n != 2) = false from bne_eq_false_iff_eq.2 e2]; rfl
        · rw [decide_eq_false d]; rfl
      · have li : i < n := Nat.lt_of_le_of_ne hi c
        have d : (i : Int) < (W : Int) := Int.ofNat_lt.2 (Nat.lt_of_lt_of_le li nW)
        obtain ⟨q1, q2⟩ := low i li
        have lm : W - (i + 1) < m := by clear top low ih; omega
        rw [decide_eq_true d, Int.toNat_natCast, show (x i != 2) = true from bne_iff_ne.2 q1, show (y i != 2) = true from bne_iff_ne.2 q2]
        exact ih (i + 1) li lm
  have hq : qsum_s op (W : Int) x y = (bif (n : Int) == (0 : Int) then qnon_s else (qwrd_s (n : Int) (rapp_s op (n : Int) ((qnum_s (n : Int) x).1) ((qnum_s (n : Int) y).1)))) := by
    unfold qsum_s
    refine key _ 0 (Nat.zero_le _) ?_
    clear top low key; omega
  rw [hq]
  by_cases c : n = 0
  · have c0 : (((n : Nat) : Int) == (0 : Int)) = true := by rw [c]; rfl
    refine ⟨0, 0, ?_, ?_, OkB.zero W⟩
    · rw [c0, cond_true]; rfl
    · rw [c0, cond_true]; exact qnon_is
  · rw [show (((n : Nat) : Int) == (0 : Int)) = false from beq_eq_false_iff_ne.2 (fun h => c (Int.ofNat_eq_zero.1 h)), cond_false, cond_false]
    have n64 : n ≤ 64 := Nat.le_trans nW hW
    have hc : cw (n : Int) = n := cw_of (Nat.pos_of_ne_zero c) n64
    have pn : 0 < 2 ^ n := Nat.two_pow_pos n
    have hp := pow_le64 n64
    have hA := apply_lt op (W := n) (Nat.pos_of_ne_zero c) (Nat.mod_lt O pn) (Nat.mod_lt P pn)
    have ox : O % 2 ^ n < 2 ^ 64 := Nat.lt_of_lt_of_le (Nat.mod_lt _ pn) hp
    have px : P % 2 ^ n < 2 ^ 64 := Nat.lt_of_lt_of_le (Nat.mod_lt _ pn) hp
    rw [qnum_is rfl n64 h2, qnum_is rfl n64 h4, if_pos (fun j hj => (low j hj).1), if_pos (fun j hj => (low j hj).2)]
    simp only
    have e1 : rapp_s op (n : Int) ((O % 2 ^ n : Nat) : Int) ((P % 2 ^ n : Nat) : Int) = ((applyN op n (O % 2 ^ n) (P % 2 ^ n) : Nat) : Int) := by
      have q := rapp_eq op (n : Int) _ _ ox px
      rw [hc, Nat.mod_mod, Nat.mod_mod] at q
      exact q
    have e2 : apply1_s op (n : Int) (O : Int) (P : Int) = ((applyN op n (O % 2 ^ n) (P % 2 ^ n) : Nat) : Int) := by
      have q := apply1_eq op (n : Int) _ _ o64 p64
      rw [hc] at q
      exact q
    rw [e1, e2]
    have hv := Nat.lt_of_lt_of_le hA hp
    generalize applyN op n (O % 2 ^ n) (P % 2 ^ n) = v at *
    obtain ⟨A, B, r1, r2, r3⟩ := word_row (Nat.pos_of_ne_zero c) n64 hv rfl rfl
    exact ⟨A, B, r1, r2, r3.mono nW⟩
end
end Go.Proofs.YtjlfgbaphnpbfaaDoor.Sx.M5
