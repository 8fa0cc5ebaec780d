/- KnownTells: shifts by what is known. -/
import Derived.Test.YtjlfgbaphnpbfaaDoorK14
open Go Go.Proofs Go.RowKit
namespace Go.Proofs.YtjlfgbaphnpbfaaDoor.Sx.M5
set_option linter.unusedVariables false
set_option linter.unusedSimpArgs false
theorem krig_same {W Z O : Nat} (hW1 : 1 ≤ W) (hW : W ≤ 64) {z0 e0 : Nat} (hz : z0 < 2 ^ 64) (he : e0 < 2 ^ 64) (h1 : z0 % 2 ^ W = Z) (h2 : e0 % 2 ^ W = O) (hd : Dj Z O) : krig_s (W : Int) (z0 : Int) (e0 : Int) = ((Z : Int), (O : Int)) := by
  have hc : cw (W : Int) = W := cw_of hW1 hW
  have hp := pow_le64 hW
  have l1 : Z < 2 ^ W := h1 ▸ Nat.mod_lt _ (Nat.two_pow_pos W)
  have l2 : O < 2 ^ W := h2 ▸ Nat.mod_lt _ (Nat.two_pow_pos W)
  unfold krig_s
  rw [cut_eq _ z0 hz, cut_eq _ e0 he, hc, h1, h2, and_nat _ _ (Nat.lt_of_lt_of_le l1 hp) (Nat.lt_of_lt_of_le l2 hp), (dj_iff _ _).1 hd]
  rfl
section
variable {W Z O Y P : Nat} {x y : Nat → Int}
theorem krig_idem (hW1 : 1 ≤ W) (hW : W ≤ 64) (h : OkB W Z O) : krig_s (W : Int) (Z : Int) (O : Int) = ((Z : Int), (O : Int)) :=
  krig_same hW1 hW (h.z64 hW) (h.o64 hW) (Nat.mod_eq_of_lt h.lz) (Nat.mod_eq_of_lt h.lo) h.dj
/-- A place of a row that is moved. -/
def sh (op : Int) (W n : Nat) (x : Nat → Int) (j : Nat) : Int := if op = 16 then (if n ≤ j then x (j - n) else 0) else if j + n < W then x (j + n) else if op = 18 then x (W - 1) else 0
theorem shi_step (op : Int) (hW1 : 1 ≤ W) {n i m : Nat} (hn : n ≤ W) (hi : i < W) (f : Nat → Int) : qshi_l0 op (W : Int) x y (m + 1) (n : Int) f (i : Int) = qshi_l0 op (W : Int) x y m (n : Int) (upd f i (sh op W n x i)) ((i + 1 : Nat) : Int) := by
  rw [qshi_l0, decide_eq_true (Int.ofNat_lt.2 hi), cond_true, Int.toNat_natCast]
  have ew : (((W : Int) - 1).toNat) = W - 1 := by omega
  rw [ew]
  unfold sh
  by_cases o : op = 16
  · rw [if_pos o, show (op == (16 : Int)) = true from beq_iff_eq.2 o, cond_true]
    by_cases c : n ≤ i
    · have e : ((i : Int) - (n : Int)).toNat = i - n := by omega
      rw [if_pos c, decide_eq_true (show (i : Int) - (n : Int) ≥ 0 by omega), cond_true, decide_eq_true (show (i : Int) - (n : Int) < (W : Int) by omega), cond_true, e]
      rfl
    · rw [if_neg c, decide_eq_false (show ¬ (i : Int) - (n : Int) ≥ 0 by omega), cond_false, show (op == (18 : Int)) = false from beq_eq_false_iff_ne.2 (by omega), cond_false]
      rfl
  · have e : ((i : Int) + (n : Int)).toNat = i + n := by omega
    rw [if_neg o, show (op == (16 : Int)) = false from beq_eq_false_iff_ne.2 o, cond_false, decide_eq_true (show (i : Int) + (n : Int) ≥ 0 by omega), cond_true]
    by_cases c : i + n < W
    · rw [if_pos c, decide_eq_true (show (i : Int) + (n : Int) < (W : Int) by omega), cond_true, e]
      rfl
    · rw [if_neg c, decide_eq_false (show ¬ (i : Int) + (n : Int) < (W : Int) by omega), cond_false]
      by_cases o2 : op = 18
      · rw [if_pos o2, show (op == (18 : Int)) = true from beq_iff_eq.2 o2, cond_true]; rfl
      · rw [if_neg o2, show (op == (18 : Int)) = false from beq_eq_false_iff_ne.2 o2, cond_false]; rfl
theorem shi_row (op : Int) (hW1 : 1 ≤ W) (hW : W ≤ 64) {n : Nat} (hn : n ≤ W) {A B : Nat} (hA : A < 2 ^ W) (hB : B < 2 ^ W) (h : ∀ j, j < W → sh op W n x j = pt A B j) : RowIs (qshi_c7 op (W : Int) x y (n : Int)) A B := by
  have key : ∀ (m i : Nat) (f : Nat → Int), (∀ j, j < i → f j = pt A B j) → (∀ j, i ≤ j → j < 64 → f j = 2) → i ≤ W → W - i < m → ∀ j, j < 64 → qshi_l0 op (W : Int) x y m (n : Int) f (i : Int) j = pt A B j := by
    intro m
    induction m with
    | zero => intro i f _ _ _ hm; exact absurd hm (Nat.not_lt_zero _)
    | succ m ih =>
      intro i f hf hg hi hm j hj
      by_cases c : i < W
      · rw [shi_step op hW1 hn c, h i c]
        have lm : W - (i + 1) < m := by clear hf hg ih h; omega
        refine ih (i + 1) _ (fun k hk => ?_) (fun k hk hk2 => ?_) c lm j hj
        · rw [upd_at]; split
          · rename_i q; rw [q]
          · rename_i q; exact hf k (Nat.lt_of_le_of_ne (Nat.le_of_lt_succ hk) q)
        · rw [upd_at, if_neg (by omega)]; exact hg k (by omega) hk2
      · rw [qshi_l0, decide_eq_false (show ¬ (i : Int) < (W : Int) by omega), cond_false]
        by_cases q : j < i
        · exact hf j q
        · rw [hg j (by omega) hj, pt_hi hA hB (by omega)]
  intro j hj
  unfold qshi_c7
  exact key _ 0 _ (fun j hj => absurd hj (Nat.not_lt_zero _)) (fun k _ hk => by rw [qnon_is k hk]; unfold pt; simp) (Nat.zero_le _) (by omega) j hj
/-- What a shift answers: a row, as it is moved. -/
def Sh (op : Int) (W n : Nat) (x : Nat → Int) (k : Int × Int) : Prop := ∃ A B : Nat, k = ((A : Int), (B : Int)) ∧ OkB W A B ∧ ∀ j, j < W → sh op W n x j = pt A B j
theorem dj_of {A B : Nat} (hB : B < 2 ^ W) (h : ∀ j, j < W → A.testBit j = true → B.testBit j = false) : Dj A B := fun j hj => by
  by_cases c : j < W
  · exact h j c hj
  · exact bit_hi hB (Nat.le_of_not_lt c)
theorem in_bit (hW : W ≤ 64) (s j : Nat) : ((2 ^ W - 1) &&& (2 ^ 64 - 1 - (2 ^ W - 1) / 2 ^ s)).testBit j = (decide (j < W) && !decide (j + s < W)) := by
  have hp := pow_le64 hW
  have hd : (2 ^ W - 1) / 2 ^ s ≤ 2 ^ W - 1 := Nat.div_le_self _ _
  have p0 := Nat.two_pow_pos W
  rw [Nat.testBit_and, Nat.testBit_two_pow_sub_one]
  by_cases c : j < W
  · rw [compl_bit (by omega) (by omega), divb, Nat.testBit_two_pow_sub_one]
  · rw [decide_eq_false c]; rfl
theorem kin_is (hW1 : 1 ≤ W) (hW : W ≤ 64) (z e : Int) {s : Nat} (hs : s ≤ 64) : kin_s z e (W : Int) (s : Int) = (((2 ^ W - 1) &&& (2 ^ 64 - 1 - (2 ^ W - 1) / 2 ^ s) : Nat) : Int) := by
  have hp := pow_le64 hW
  have hd : (2 ^ W - 1) / 2 ^ s ≤ 2 ^ W - 1 := Nat.div_le_self _ _
  have p0 := Nat.two_pow_pos W
  unfold kin_s
  rw [mask_eq, cw_of hW1 hW, Int.toNat_natCast, shr_nat _ _ hs, andNot_nat _ _ (by omega) (by omega)]
theorem in_lt {s : Nat} : (2 ^ W - 1) &&& (2 ^ 64 - 1 - (2 ^ W - 1) / 2 ^ s) < 2 ^ W := by
  have p0 := Nat.two_pow_pos W
  exact Nat.lt_of_le_of_lt Nat.and_le_left (by omega)
theorem div_lt {a s : Nat} (h : a < 2 ^ W) : a / 2 ^ s < 2 ^ W := Nat.lt_of_le_of_lt (Nat.div_le_self _ _) h
theorem kdow_is (hW1 : 1 ≤ W) (hW : W ≤ 64) (h1 : OkB W Z O) {s : Nat} (hs : s ≤ 64) : kdow_s (Z : Int) (O : Int) (W : Int) (s : Int) = (((Z / 2 ^ s ||| ((2 ^ W - 1) &&& (2 ^ 64 - 1 - (2 ^ W - 1) / 2 ^ s)) : Nat) : Int), ((O / 2 ^ s : Nat) : Int)) := by
  have hp := pow_le64 hW
  unfold kdow_s
  rw [kin_is hW1 hW _ _ hs, Int.toNat_natCast, shr_nat _ _ hs, shr_nat _ _ hs, or_nat _ _ (Nat.lt_of_lt_of_le (div_lt h1.lz) hp) (Nat.lt_of_lt_of_le in_lt hp)]
theorem down_sh (op : Int) (hW1 : 1 ≤ W) (hW : W ≤ 64) (h1 : OkB W Z O) (h2 : RowIs x Z O) (s : Nat) (ho : op ≠ 16) (h0 : op = 18 → Z.testBit (W - 1) = true) :
    OkB W (Z / 2 ^ s ||| ((2 ^ W - 1) &&& (2 ^ 64 - 1 - (2 ^ W - 1) / 2 ^ s))) (O / 2 ^ s) ∧ ∀ j, j < W → sh op W s x j = pt (Z / 2 ^ s ||| ((2 ^ W - 1) &&& (2 ^ 64 - 1 - (2 ^ W - 1) / 2 ^ s))) (O / 2 ^ s) j := by
  refine ⟨⟨Nat.or_lt_two_pow (div_lt h1.lz) in_lt, div_lt h1.lo, fun j hj => ?_⟩, fun j hj => ?_⟩
  · rw [Nat.testBit_or, in_bit hW, divb] at hj
    rw [divb]
    by_cases c : j + s < W
    · rw [decide_eq_true c, Bool.not_true, Bool.and_false, Bool.or_false] at hj
      exact h1.dj _ hj
    · exact bit_hi h1.lo (Nat.le_of_not_lt c)
  · unfold sh pt
    rw [if_neg ho, Nat.testBit_or, in_bit hW, divb, divb, decide_eq_true hj]
    by_cases c : j + s < W
    · rw [if_pos c, decide_eq_true c, h2 _ (by omega)]
      simp [pt]
    · rw [if_neg c, decide_eq_false c, bit_hi h1.lo (Nat.le_of_not_lt c)]
      by_cases o : op = 18
      · rw [if_pos o, h2 _ (by omega)]
        have e := h0 o
        have d := h1.dj _ e
        simp [pt, e, d]
      · rw [if_neg o]; simp
theorem kdow_sh (op : Int) (hW1 : 1 ≤ W) (hW : W ≤ 64) (h1 : OkB W Z O) (h2 : RowIs x Z O) {s : Nat} (hs : s ≤ 64) (ho : op ≠ 16) (h0 : op ≠ 18) : Sh op W s x (kdow_s (Z : Int) (O : Int) (W : Int) (s : Int)) := by
  obtain ⟨a, b⟩ := down_sh op hW1 hW h1 h2 s ho (fun h => absurd h h0)
  exact ⟨_, _, kdow_is hW1 hW h1 hs, a, b⟩
theorem top_and {a : Nat} (hW1 : 1 ≤ W) : (a &&& 2 ^ (W - 1) = 0) ↔ a.testBit (W - 1) = false := by
  rw [and0_iff]
  constructor
  · intro h
    cases c : a.testBit (W - 1) with
    | false => rfl
    | true =>
      have := h _ c
      rw [Nat.testBit_two_pow_self] at this; cases this
  · intro h i hi
    rw [Nat.testBit_two_pow]
    refine decide_eq_false fun e => ?_
    rw [e, hi] at h; cases h
theorem ksig_sh (op : Int) (hW1 : 1 ≤ W) (hW : W ≤ 64) (h1 : OkB W Z O) (h2 : RowIs x Z O) {s : Nat} (hs : s ≤ 64) (ho : op = 18) : Sh op W s x (ksig_s (Z : Int) (O : Int) (W : Int) (s : Int)) := by
  have hp := pow_le64 hW
  have z64 := h1.z64 hW
  have o64 := h1.o64 hW
  have pt64 : 2 ^ (W - 1) < 2 ^ 64 := Nat.pow_lt_pow_right (by decide) (by omega)
  have n16 : op ≠ 16 := by omega
  have ew : (((W : Int) - 1).toNat) = W - 1 := by omega
  unfold ksig_s
  rw [kin_is hW1 hW _ _ hs, ew, Int.toNat_natCast, show (1 : Int) = ((1 : Nat) : Int) from rfl, shl_nat _ _ (by omega), Nat.one_mul, Nat.mod_eq_of_lt pt64, and_nat _ _ z64 pt64, and_nat _ _ o64 pt64, shr_nat _ _ hs, shr_nat _ _ hs, or_nat _ _ (Nat.lt_of_lt_of_le (div_lt h1.lz) hp) (Nat.lt_of_lt_of_le in_lt hp), or_nat _ _ (Nat.lt_of_lt_of_le (div_lt h1.lo) hp) (Nat.lt_of_lt_of_le in_lt hp)]
  cases cz : Z.testBit (W - 1) with
  | true =>
    have n0 : ¬ (Z &&& 2 ^ (W - 1) = 0) := fun h => by rw [(top_and hW1).1 h] at cz; cases cz
    rw [show (((Z &&& 2 ^ (W - 1) : Nat) : Int) != (0 : Int)) = true from bne_iff_ne.2 (by omega), cond_true]
    obtain ⟨a, b⟩ := down_sh op hW1 hW h1 h2 s n16 (fun _ => cz)
    exact ⟨_, _, rfl, a, b⟩
  | false =>
    rw [(top_and hW1).2 cz, show (((0 : Nat) : Int) != (0 : Int)) = false from rfl, cond_false]
    cases co : O.testBit (W - 1) with
    | true =>
      have n0 : ¬ (O &&& 2 ^ (W - 1) = 0) := fun h => by rw [(top_and hW1).1 h] at co; cases co
      rw [show (((O &&& 2 ^ (W - 1) : Nat) : Int) != (0 : Int)) = true from bne_iff_ne.2 (by omega), cond_true]
      refine ⟨_, _, rfl, ⟨div_lt h1.lz, Nat.or_lt_two_pow (div_lt h1.lo) in_lt, dj_of (Nat.or_lt_two_pow (div_lt h1.lo) in_lt) fun j hj hz => ?_⟩, fun j hj => ?_⟩
      · rw [divb] at hz
        rw [Nat.testBit_or, in_bit hW, divb]
        have c : j + s < W := bit_lt h1.lz hz
        rw [h1.dj _ hz, decide_eq_true c]; simp
      · unfold sh pt
        rw [if_neg n16, Nat.testBit_or, in_bit hW, divb, divb, decide_eq_true hj]
        by_cases c : j + s < W
        · rw [if_pos c, decide_eq_true c, h2 _ (by omega)]
          simp [pt]
        · rw [if_neg c, decide_eq_false c, if_pos ho, h2 _ (by omega)]
          simp [pt, co]
    | false =>
      rw [(top_and hW1).2 co, show (((0 : Nat) : Int) != (0 : Int)) = false from rfl, cond_false]
      refine ⟨_, _, rfl, ⟨div_lt h1.lz, div_lt h1.lo, fun j hz => ?_⟩, fun j hj => ?_⟩
      · rw [divb] at hz ⊢
        exact h1.dj _ hz
      · unfold sh pt
        rw [if_neg n16, divb, divb]
        by_cases c : j + s < W
        · rw [if_pos c, h2 _ (by omega)]
          simp [pt]
        · rw [if_neg c, if_pos ho, h2 _ (by omega), bit_hi h1.lo (Nat.le_of_not_lt c), bit_hi h1.lz (Nat.le_of_not_lt c)]
          simp [pt, co, cz]
theorem kup_sh (op : Int) (hW1 : 1 ≤ W) (hW : W ≤ 64) (h1 : OkB W Z O) (h2 : RowIs x Z O) {s : Nat} (hs : s < 64) (ho : op = 16) : Sh op W s x (kup_s (Z : Int) (O : Int) (W : Int) (s : Int)) := by
  have ps : 2 ^ s < 2 ^ 64 := Nat.pow_lt_pow_right (by decide) hs
  have p0 := Nat.two_pow_pos s
  have m0 : ∀ a : Nat, a % 2 ^ 64 < 2 ^ 64 := fun a => Nat.mod_lt _ (by decide)
  have e1 : IntKind.u64.wrap (((2 ^ s : Nat) : Int) - ((1 : Nat) : Int)) = ((2 ^ s - 1 : Nat) : Int) := by rw [u64_small (by omega) (by omega)]; omega
  have hz : Z * 2 ^ s % 2 ^ 64 ||| (2 ^ s - 1) < 2 ^ 64 := Nat.or_lt_two_pow (m0 _) (by omega)
  have bz : ∀ j, ((Z * 2 ^ s % 2 ^ 64 ||| (2 ^ s - 1)) % 2 ^ W).testBit j = (decide (j < W) && (if s ≤ j then Z.testBit (j - s) else true)) := fun j => by
    rw [of_bit]
    by_cases c : j < W
    · rw [decide_eq_true c, Bool.true_and, Bool.true_and, Nat.testBit_or, of_bit, decide_eq_true (show j < 64 by omega), Bool.true_and, mulb, Nat.testBit_two_pow_sub_one]
      by_cases d : s ≤ j
      · rw [if_pos d, decide_eq_true d, decide_eq_false (by omega)]; simp
      · rw [if_neg d, decide_eq_true (show j < s by omega)]; simp
    · rw [decide_eq_false c]; rfl
  have bo : ∀ j, ((O * 2 ^ s % 2 ^ 64) % 2 ^ W).testBit j = (decide (j < W) && (if s ≤ j then O.testBit (j - s) else false)) := fun j => by
    rw [of_bit]
    by_cases c : j < W
    · rw [decide_eq_true c, Bool.true_and, Bool.true_and, of_bit, decide_eq_true (show j < 64 by omega), Bool.true_and, mulb]
      by_cases d : s ≤ j
      · rw [if_pos d, decide_eq_true d]; simp
      · rw [if_neg d, decide_eq_false d]; rfl
    · rw [decide_eq_false c]; rfl
  unfold kup_s
  rw [Int.toNat_natCast, show (1 : Int) = ((1 : Nat) : Int) from rfl, shl_nat _ _ (by omega), shl_nat _ _ (by omega), shl_nat _ _ (by omega), Nat.one_mul, Nat.mod_eq_of_lt ps, e1, or_nat _ _ (m0 _) (by omega)]
  generalize hA : (Z * 2 ^ s % 2 ^ 64 ||| (2 ^ s - 1)) % 2 ^ W = A at *
  generalize hB : (O * 2 ^ s % 2 ^ 64) % 2 ^ W = B at *
  have dj : Dj A B := fun j hj => by
    rw [bz j] at hj
    rw [bo j]
    by_cases c : j < W
    · rw [decide_eq_true c, Bool.true_and] at hj ⊢
      by_cases d : s ≤ j
      · rw [if_pos d] at hj ⊢; exact h1.dj _ hj
      · rw [if_neg d]
    · rw [decide_eq_false c]; rfl
  refine ⟨A, B, ?_, ⟨hA ▸ Nat.mod_lt _ (Nat.two_pow_pos W), hB ▸ Nat.mod_lt _ (Nat.two_pow_pos W), dj⟩, fun j hj => ?_⟩
  · rw [krig_same hW1 hW hz (m0 _) hA hB dj]
  · unfold sh pt
    rw [if_pos ho, bz j, bo j, decide_eq_true hj, Bool.true_and, Bool.true_and]
    by_cases d : s ≤ j
    · rw [if_pos d, if_pos d, if_pos d, h2 _ (by omega)]; rfl
    · rw [if_neg d, if_neg d, if_neg d]; rfl
theorem kof_sh (op : Int) (hW1 : 1 ≤ W) (hW : W ≤ 64) (ho : op ≠ 18) : Sh op W W x (kof_s (W : Int) 0) := by
  have e := kof_eq (W : Int) (x := 0) (by decide)
  rw [cw_of hW1 hW, Nat.zero_mod] at e
  refine ⟨2 ^ W - 1 - 0, 0, e, of_ok W (Nat.two_pow_pos W), fun j hj => ?_⟩
  unfold sh pt
  rw [Nat.sub_zero, Nat.zero_testBit, Nat.testBit_two_pow_sub_one, decide_eq_true hj, if_neg (show ¬ j + W < W by omega), if_neg ho, if_neg (show ¬ W ≤ j by omega)]
  by_cases o : op = 16
  · rw [if_pos o]; rfl
  · rw [if_neg o]; rfl
theorem pair_eta (k : Int × Int) : (k.1, k.2) = k := rfl
theorem sh_last (op : Int) (hW1 : 1 ≤ W) (ho : op = 18) : ∀ j, j < W → sh op W W x j = sh op W (W - 1) x j := fun j hj => by
  unfold sh
  rw [if_neg (show ¬ op = 16 by omega), if_neg (show ¬ op = 16 by omega), if_neg (show ¬ j + W < W by omega), if_pos ho]
  by_cases c : j + (W - 1) < W
  · rw [if_pos c, show j + (W - 1) = W - 1 by omega]
  · rw [if_neg c]
theorem shift_row (op : Int) (ho : op = 16 ∨ op = 17 ∨ op = 18) (hW1 : 1 ≤ W) (hW : W ≤ 64) (h1 : OkB W Z O) (h2 : RowIs x Z O) (h3 : OkB W Y P) (h4 : RowIs y Y P) :
    ∃ A B : Nat, kmov_s (Z : Int) (O : Int) (W : Int) (Y : Int) (P : Int) (W : Int) op = ((A : Int), (B : Int)) ∧ RowIs (qshi_s op (W : Int) x y) A B ∧ OkB W A B := by
  have hc : cw (W : Int) = W := cw_of hW1 hW
  have o64 := h3.o64 hW
  have hk : knum_s (W : Int) (Y : Int) (P : Int) = if Y = 2 ^ W - 1 - P then ((P : Int), true) else (0, false) := by
    have q := knum_both (W : Int) (krig_idem hW1 hW h3) (hc.symm ▸ h3)
    rw [hc] at q; exact q
  have hq : qnum_s (W : Int) y = if Y = 2 ^ W - 1 - P then ((P : Int), true) else (0, false) := by
    have q := qnum_row (w := (W : Int)) (hc.symm ▸ h3) h4
    rw [hc] at q; exact q
  have uw : IntKind.u64.wrap (W : Int) = (W : Int) := u64_small (by omega) (by omega)
  have uw1 : IntKind.u64.wrap ((W : Int) - 1) = ((W - 1 : Nat) : Int) := by rw [u64_small (by omega) (by omega)]; omega
  unfold kmov_s qshi_s
  rw [hk, hq, uw, uw1]
  by_cases c : Y = 2 ^ W - 1 - P
  · rw [if_pos c]
    simp only [Bool.not_true, cond_false, pair_eta]
    have fin : ∀ (n : Nat) (k : Int × Int), n ≤ W → Sh op W n x k → ∃ A B : Nat, k = ((A : Int), (B : Int)) ∧ RowIs (qshi_c7 op (W : Int) x y (n : Int)) A B ∧ OkB W A B := fun n k hn hs => by
      obtain ⟨A, B, e1, e2, e3⟩ := hs
      exact ⟨A, B, e1, shi_row op hW1 hW hn e2.lz e2.lo e3, e2⟩
    by_cases d : P < W
    · rw [decide_eq_true (Int.ofNat_lt.2 d), decide_eq_false (show ¬ (P : Int) ≥ (W : Int) by omega)]
      simp only [cond_true, cond_false]
      refine fin P _ (Nat.le_of_lt d) ?_
      rcases ho with o | o | o
      · rw [show (op == (18 : Int)) = false from beq_eq_false_iff_ne.2 (by omega), show (op == (16 : Int)) = true from beq_iff_eq.2 o, cond_false, cond_true]
        exact kup_sh op hW1 hW h1 h2 (by omega) o
      · rw [show (op == (18 : Int)) = false from beq_eq_false_iff_ne.2 (by omega), show (op == (16 : Int)) = false from beq_eq_false_iff_ne.2 (by omega), cond_false, cond_false]
        exact kdow_sh op hW1 hW h1 h2 (by omega) (by omega) (by omega)
      · rw [show (op == (18 : Int)) = true from beq_iff_eq.2 o, cond_true]
        exact ksig_sh op hW1 hW h1 h2 (by omega) o
    · rw [decide_eq_false (show ¬ (P : Int) < (W : Int) by omega), decide_eq_true (show (P : Int) ≥ (W : Int) by omega)]
      simp only [cond_true, cond_false]
      refine fin W _ (Nat.le_refl W) ?_
      by_cases o : op = 18
      · rw [show (op == (18 : Int)) = true from beq_iff_eq.2 o, cond_true]
        obtain ⟨A, B, e1, e2, e3⟩ := ksig_sh op hW1 hW h1 h2 (s := W - 1) (by omega) o
        exact ⟨A, B, e1, e2, fun j hj => (sh_last op hW1 o j hj).trans (e3 j hj)⟩
      · rw [show (op == (18 : Int)) = false from beq_eq_false_iff_ne.2 o, cond_false]
        exact kof_sh op hW1 hW o
  · rw [if_neg c]
    simp only [Bool.not_false, cond_true]
    exact ⟨0, 0, rfl, qnon_is, OkB.zero W⟩
end
end Go.Proofs.YtjlfgbaphnpbfaaDoor.Sx.M5
