/- SpanTells: what both tables say. -/
import Derived.Test.YtdkomjmlmmihkaaS7
open Go Go.Proofs Go.RowKit
namespace Go.Proofs.Ytdkomjmlmmihkaa.Sx.M5
set_option linter.unusedVariables false
set_option linter.unusedSimpArgs false
theorem two_mul_pow (z : Int) (k : Nat) : 2 * z * 2 ^ k = z * 2 ^ (k + 1) := by
  rw [Int.pow_succ, Int.mul_comm (2 ^ k) 2, ← Int.mul_assoc, Int.mul_comm 2 z]
theorem rtwo_l0_eq {y : Int} : ∀ (m k : Nat) (z : Int), 0 ≤ z → z * 2 ^ k < 18446744073709551616 → k < m → k < 64 → rtwo_l0 y m z k = z * 2 ^ k := by
  intro m
  induction m with
  | zero => intro k z _ _ hm; exact absurd hm (Nat.not_lt_zero _)
  | succ m ih =>
    intro k z h0 h1 hm hk
    rw [rtwo_l0]
    cases k with
    | zero => rw [decide_eq_false (by omega)]; show z = _; rw [Int.pow_zero, Int.mul_one]
    | succ k =>
      rw [decide_eq_true (by omega), ← two_mul_pow] at *
      have hp := pow_ge1 k
      have h2 : 2 * z * 1 ≤ 2 * z * 2 ^ k := Int.mul_le_mul_of_nonneg_left hp (by omega)
      rw [u64_small (by omega) (by omega), show IntKind.u64.wrap (((k + 1 : Nat) : Int) - 1) = (k : Int) by rw [wrap_u64]; omega]
      exact ih k (2 * z) (by omega) h1 (by omega) (by omega)
theorem rtwo_eq {k : Nat} (hk : k < 64) : rtwo_s k = 2 ^ k := by
  unfold rtwo_s
  have hb : (2 : Int) ^ k ≤ 2 ^ 63 := by
    rw [pow_cast, pow_cast]
    exact Int.ofNat_le.2 (Nat.pow_le_pow_right (by decide) (by omega))
  rw [rtwo_l0_eq _ k 1 (by decide) (by omega) (by omega) hk, Int.one_mul]
theorem rdow_l0_eq {w x y : Int} : ∀ (m k : Nat) (z : Int), 0 ≤ z → z < 18446744073709551616 → k < m → k < 64 → rdow_l0 w x y m z k = z / 2 ^ k := by
  intro m
  induction m with
  | zero => intro k z _ _ hm; exact absurd hm (Nat.not_lt_zero _)
  | succ m ih =>
    intro k z h0 h1 hm hk
    rw [rdow_l0]
    cases k with
    | zero => rw [decide_eq_false (by omega)]; show z = _; rw [Int.pow_zero, Int.ediv_one]
    | succ k =>
      rw [decide_eq_true (by omega), Int.tdiv_eq_ediv_of_nonneg h0, u64_small (by omega) (by omega), show IntKind.u64.wrap (((k + 1 : Nat) : Int) - 1) = (k : Int) by rw [wrap_u64]; omega]
      simp only [cond_true]
      rw [ih k (z / 2) (by omega) (by omega) (by omega) (by omega), Int.pow_succ, Int.mul_comm (2 ^ k) 2, Int.ediv_ediv_of_nonneg (by decide)]
/-- What is moved down, by both sides. -/
theorem down_same {w : Int} {W : Nat} (hw : w = W) (h1 : 1 ≤ W) (h2 : W ≤ 64) {x y : Int} (hx : 0 ≤ x ∧ x < 2 ^ W) (hy : 0 ≤ y ∧ y < 2 ^ W) : sdow_s w x y = rdow_s w x y := by
  have hp := pow_le64I h2
  have e := apply1_eq 17 w x.toNat y.toNat (by omega) (by omega)
  rw [Int.toNat_of_nonneg hx.1, Int.toNat_of_nonneg hy.1] at e
  have hc : cw w = W := by rw [hw, cw_of h1 h2]
  have hx64 : x < 18446744073709551616 := by omega
  rw [pow_cast] at hx hy
  rw [hc, Nat.mod_eq_of_lt (by omega), Nat.mod_eq_of_lt (by omega)] at e
  unfold sdow_s rdow_s
  rw [e, hw, u64_small (n := (W : Int)) (by omega) (by omega)]
  simp only [applyN, Int.reduceEq, if_false, if_true]
  obtain ⟨k, rfl⟩ : ∃ k : Nat, y = k := ⟨y.toNat, by omega⟩
  rw [Int.toNat_natCast]
  by_cases c : W ≤ k
  · rw [if_pos c, decide_eq_true (by omega)]; rfl
  · rw [if_neg c, decide_eq_false (by omega)]
    simp only [cond_false]
    rw [rdow_l0_eq _ k x hx.1 hx64 (by omega) (by omega), Int.natCast_ediv, Int.toNat_of_nonneg hx.1, pow_cast]
def chk (b v : Nat) : Bool := Nat.blt b (2 ^ v) && (bif Nat.beq b 0 then Nat.beq v 0 else Nat.ble 1 v && Nat.ble (2 ^ (v - 1)) b)
def chkAll : Nat → List Nat → Bool
  | _, [] => true
  | b, v :: l => chk b v && chkAll (b + 1) l
theorem chkAll_t : ∀ (l : List Nat) (b : Nat), chkAll b l = true → ∀ j, j < l.length → chk (b + j) (l.getD j 0) = true
  | [], _, _, j, hj => absurd hj (Nat.not_lt_zero _)
  | v :: l, b, h, j, hj => by
    obtain ⟨h1, h2⟩ := Bool.and_eq_true_iff.1 h
    cases j with
    | zero => exact h1
    | succ j =>
      have := chkAll_t l (b + 1) h2 j (Nat.lt_of_succ_lt_succ hj)
      rwa [show b + 1 + j = b + (j + 1) by omega] at this
def len8n : List Nat := [0, 1, 2, 2, 3, 3, 3, 3, 4, 4, 4, 4, 4, 4, 4, 4, 5, 5, 5, 5, 5, 5, 5, 5, 5, 5, 5, 5, 5, 5, 5, 5, 6, 6, 6, 6, 6, 6, 6, 6, 6, 6, 6, 6, 6, 6, 6, 6, 6, 6, 6, 6, 6, 6, 6, 6, 6, 6, 6, 6, 6, 6, 6, 6, 7, 7, 7, 7, 7, 7, 7, 7, 7, 7, 7, 7, 7, 7, 7, 7, 7, 7, 7, 7, 7, 7, 7, 7, 7, 7, 7, 7, 7, 7, 7, 7, 7, 7, 7, 7, 7, 7, 7, 7, 7, 7, 7, 7, 7, 7, 7, 7, 7, 7, 7, 7, 7, 7, 7, 7, 7, 7, 7, 7, 7, 7, 7, 7, 8, 8, 8, 8, 8, 8, 8, 8, 8, 8, 8, 8, 8, 8, 8, 8, 8, 8, 8, 8, 8, 8, 8, 8, 8, 8, 8, 8, 8, 8, 8, 8, 8, 8, 8, 8, 8, 8, 8, 8, 8, 8, 8, 8, 8, 8, 8, 8, 8, 8, 8, 8, 8, 8, 8, 8, 8, 8, 8, 8, 8, 8, 8, 8, 8, 8, 8, 8, 8, 8, 8, 8, 8, 8, 8, 8, 8, 8, 8, 8, 8, 8, 8, 8, 8, 8, 8, 8, 8, 8, 8, 8, 8, 8, 8, 8, 8, 8, 8, 8, 8, 8, 8, 8, 8, 8, 8, 8, 8, 8, 8, 8, 8, 8, 8, 8, 8, 8, 8, 8, 8, 8, 8, 8, 8, 8, 8, 8]
theorem len8n_eq : len8b.data.toList.map UInt8.toNat = len8n := by kernel_rfl
theorem len8n_ok : chkAll 0 len8n = true := by kernel_rfl
theorem byte_len (b : _root_.Fin 256) : ∃ v : Nat, sByte len8b (b.val : Int) = v ∧ (b.val : Int) < 2 ^ v ∧ (b.val ≠ 0 → 1 ≤ v ∧ 2 ^ (v - 1) ≤ (b.val : Int)) ∧ (b.val = 0 → v = 0) := by
  have hl : len8n.length = 256 := by kernel_rfl
  have h := chkAll_t len8n 0 len8n_ok b.val (by rw [hl]; exact b.isLt)
  have hv : (len8b.data.toList.getD b.val 0).toNat = len8n.getD b.val 0 := by
    rw [← len8n_eq, List.getD_eq_getElem?_getD, List.getD_eq_getElem?_getD, List.getElem?_map]
    cases len8b.data.toList[b.val]? <;> rfl
  rw [Nat.zero_add] at h
  unfold chk at h
  obtain ⟨h1, h2⟩ := Bool.and_eq_true_iff.1 h
  refine ⟨len8n.getD b.val 0, ?_, ?_, fun hb => ?_, fun hb => ?_⟩
  · unfold sByte
    rw [Int.toNat_natCast, hv]
  · rw [pow_cast]; exact Int.ofNat_lt.2 (Nat.blt_eq ▸ h1)
  · rw [show Nat.beq b.val 0 = false by cases hq : Nat.beq b.val 0 with
      | false => rfl
      | true => exact absurd (Nat.eq_of_beq_eq_true hq) hb] at h2
    obtain ⟨h3, h4⟩ := Bool.and_eq_true_iff.1 h2
    refine ⟨Nat.le_of_ble_eq_true h3, ?_⟩
    rw [pow_cast]; exact Int.ofNat_le.2 (Nat.le_of_ble_eq_true h4)
  · rw [hb] at h2
    rw [hb]
    exact Nat.eq_of_beq_eq_true h2
/-- How many bits a number has. -/
def LenOf (x : Int) (L : Nat) : Prop := L ≤ 64 ∧ x < 2 ^ L ∧ (L = 0 ∨ 2 ^ (L - 1) ≤ x)
theorem wrap_two {s v : Int} (h0 : 0 ≤ s) (h1 : s ≤ 56) (h2 : 0 ≤ v) (h3 : v ≤ 8) : IntKind.i64.wrap (s + IntKind.i64.wrap v) = s + v := by
  rw [IntKind.wrap_i64, IntKind.wrap_i64]; omega
theorem len_leaf {x : Int} (hx : 0 ≤ x) (s : Nat) (hs : s ≤ 56) (h0 : s = 0 ∨ 1 ≤ x / 2 ^ s) (h1 : x / 2 ^ s < 256) : ∃ L : Nat, IntKind.i64.wrap ((s : Int) + IntKind.i64.wrap (sByte len8b (IntKind.u8.wrap (x / 2 ^ s)))) = L ∧ LenOf x L := by
  have hp := pow_ge1 s
  have hq : 0 ≤ x / 2 ^ s := Int.ediv_nonneg hx (by omega)
  obtain ⟨b, hb⟩ : ∃ b : Nat, x / 2 ^ s = b := ⟨(x / 2 ^ s).toNat, by omega⟩
  rw [hb] at h0 h1 ⊢
  obtain ⟨v, hv, B⟩ := byte_len ⟨b, by omega⟩
  simp only at B hv
  have hr := sByte_len8 (b : Int)
  rw [wrap_u8, show (b : Int) % 256 = b by omega]
  rw [hv] at hr ⊢
  have hdm := Int.mul_ediv_add_emod x (2 ^ s)
  rw [hb] at hdm
  have hm0 := Int.emod_nonneg x (show (2 : Int) ^ s ≠ 0 by omega)
  have hm1 := Int.emod_lt_of_pos x (show (0 : Int) < 2 ^ s by omega)
  refine ⟨s + v, wrap_two (by omega) (by omega) (by omega) (by omega), by omega, ?_, ?_⟩
  · rw [Int.pow_add]
    have : 2 ^ s * ((b : Int) + 1) ≤ 2 ^ s * 2 ^ v := Int.mul_le_mul_of_nonneg_left (by have := B.1; omega) (by omega)
    rw [Int.mul_add] at this
    omega
  · by_cases hz : b = 0
    · left
      have := B.2.2 hz
      rcases h0 with h0 | h0
      · omega
      · omega
    · right
      obtain ⟨B1, B2⟩ := B.2.1 hz
      rw [show s + v - 1 = s + (v - 1) by omega, Int.pow_add]
      have : 2 ^ s * 2 ^ (v - 1) ≤ 2 ^ s * (b : Int) := Int.mul_le_mul_of_nonneg_left B2 (by omega)
      omega
theorem len64_is {x : Int} (hx : 0 ≤ x ∧ x < 18446744073709551616) : ∃ L : Nat, len64_s x = L ∧ LenOf x L := by
  have f : ∀ (z : Int) (k : Nat), z.fdiv (2 ^ k) = z / 2 ^ k := fun z k => Int.fdiv_eq_ediv_of_nonneg _ (by have := pow_ge1 k; omega)
  have d : ∀ (z : Int) (j k : Nat), z / 2 ^ j / 2 ^ k = z / 2 ^ (j + k) := fun z j k => by
    rw [Int.pow_add, Int.ediv_ediv_of_nonneg (by have := pow_ge1 j; omega)]
  unfold len64_s
  simp only [f, d, Nat.reduceAdd]
  have n0 : x / 2 ^ 0 = x := by rw [Int.pow_zero, Int.ediv_one]
  have L := fun s hs h0 h1 => len_leaf hx.1 s hs h0 h1
  have e32 : x / 2 ^ 32 = x / 4294967296 := rfl
  have e16 : x / 2 ^ 16 = x / 65536 := rfl
  have e8 : x / 2 ^ 8 = x / 256 := rfl
  have e48 : x / 2 ^ 48 = x / 281474976710656 := rfl
  have e40 : x / 2 ^ 40 = x / 1099511627776 := rfl
  have e56 : x / 2 ^ 56 = x / 72057594037927936 := rfl
  have e24 : x / 2 ^ 24 = x / 16777216 := rfl
  by_cases c1 : x ≥ 4294967296
  · rw [decide_eq_true c1]
    simp only [cond_true]
    by_cases c2 : x / 2 ^ 32 ≥ 65536
    · rw [decide_eq_true c2]
      simp only [cond_true]
      by_cases c3 : x / 2 ^ 48 ≥ 256
      · rw [decide_eq_true c3]; exact L 56 (by omega) (.inr (by omega)) (by omega)
      · rw [decide_eq_false c3]; exact L 48 (by omega) (.inr (by omega)) (by omega)
    · rw [decide_eq_false c2]
      simp only [cond_false]
      by_cases c3 : x / 2 ^ 32 ≥ 256
      · rw [decide_eq_true c3]; exact L 40 (by omega) (.inr (by omega)) (by omega)
      · rw [decide_eq_false c3]; exact L 32 (by omega) (.inr (by omega)) (by omega)
  · rw [decide_eq_false c1]
    simp only [cond_false]
    by_cases c2 : x ≥ 65536
    · rw [decide_eq_true c2]
      simp only [cond_true]
      by_cases c3 : x / 2 ^ 16 ≥ 256
      · rw [decide_eq_true c3]; exact L 24 (by omega) (.inr (by omega)) (by omega)
      · rw [decide_eq_false c3]; exact L 16 (by omega) (.inr (by omega)) (by omega)
    · rw [decide_eq_false c2]
      simp only [cond_false]
      by_cases c3 : x ≥ 256
      · rw [decide_eq_true c3]; exact L 8 (by omega) (.inr (by omega)) (by omega)
      · rw [decide_eq_false c3]
        have := L 0 (by omega) (.inl rfl) (by rw [n0]; omega)
        rw [n0] at this
        exact this
theorem rone_eq {x y : Int} {L : Nat} (hx : 0 ≤ x ∧ x < 18446744073709551616) (hy : 0 ≤ y ∧ y < 18446744073709551616) (hL : LenOf (max x y) L) : rone_s x y = 2 ^ L - 1 := by
  obtain ⟨l1, l2, l3⟩ := hL
  have mono : ∀ j k : Nat, j ≤ k → (2 : Int) ^ j ≤ 2 ^ k := fun j k h => by
    rw [pow_cast, pow_cast]; exact Int.ofNat_le.2 (Nat.pow_le_pow_right (by decide) h)
  have key : ∀ (m k : Nat), k ≤ L → (max x y - (2 ^ k - 1)).toNat < m → rone_l0 x y m (2 ^ k - 1) = 2 ^ L - 1 := by
    intro m
    induction m with
    | zero => intro k _ hm; exact absurd hm (Nat.not_lt_zero _)
    | succ m ih =>
      intro k hk hm
      rw [rone_l0]
      have hp := pow_ge1 k
      have next : max x y > 2 ^ k - 1 → rone_l0 x y m (IntKind.u64.wrap (IntKind.u64.wrap (2 * (2 ^ k - 1)) + 1)) = 2 ^ L - 1 := fun h => by
        have hkL : k < L := by
          rcases Nat.lt_or_ge k L with c | c
          · exact c
          · have := mono L k c; omega
        have hb := mono (k + 1) 64 (by omega)
        have e : (2 : Int) ^ (k + 1) = 2 * 2 ^ k := by rw [Int.pow_succ]; omega
        have e64 : (2 : Int) ^ 64 = 18446744073709551616 := rfl
        rw [show IntKind.u64.wrap (IntKind.u64.wrap (2 * (2 ^ k - 1)) + 1) = (2 : Int) ^ (k + 1) - 1 by rw [wrap_u64, wrap_u64]; omega]
        exact ih (k + 1) (by omega) (by omega)
      by_cases c1 : 2 ^ k - 1 < x
      · rw [decide_eq_true c1]; exact next (by omega)
      · rw [decide_eq_false c1]
        by_cases c2 : 2 ^ k - 1 < y
        · rw [decide_eq_true c2]; exact next (by omega)
        · rw [decide_eq_false c2]
          show (2 : Int) ^ k - 1 = _
          have : k = L := by
            rcases Nat.lt_or_ge k L with c | c
            · have := mono k (L - 1) (by omega)
              rcases l3 with l3 | l3 <;> omega
            · omega
          rw [this]
  unfold rone_s
  exact key _ 0 (Nat.zero_le _) (by rw [Int.pow_zero]; omega)
theorem full_same {x y : Int} (hx : 0 ≤ x ∧ x < 18446744073709551616) (hy : 0 ≤ y ∧ y < 18446744073709551616) : sful_s x y = rone_s x y := by
  obtain ⟨L, h1, h2⟩ := len64_is (x := max x y) (by omega)
  rw [rone_eq hx hy h2]
  unfold sful_s
  rw [h1]
  by_cases c : L = 0
  · subst c; rfl
  · rw [show ((L : Int) == 0) = false from beq_eq_false_iff_ne.2 (by omega), show (64 - (L : Int)).toNat = 64 - L by omega]
    have := shr_nat (2 ^ 64 - 1) (64 - L) (by omega)
    rw [mask_div _ h2.1] at this
    refine this.trans ?_
    rw [pow_cast]
    have := Nat.two_pow_pos L
    omega
end Go.Proofs.Ytdkomjmlmmihkaa.Sx.M5
