/- SpanTells: the plain law. -/
import Derived.Test.YtahobmjchppciaaDoorS4
import Derived.Test.YtahobmjchppciaaDoorKy
open Go Go.Proofs Go.RowKit
namespace Go.Proofs.YtahobmjchppciaaDoor.Sx.M5
set_option linter.unusedVariables false
set_option linter.unusedSimpArgs false
theorem notF' {b : Bool} (h : (!b) = false) : b = true := by cases b <;> simp_all
/-! words -/
theorem pow_ge1 (W : Nat) : (1 : Int) ≤ 2 ^ W := by rw [pow_cast]; have := Nat.two_pow_pos W; omega
theorem pow_le64I {W : Nat} (h : W ≤ 64) : (2 : Int) ^ W ≤ 18446744073709551616 := by rw [pow_cast]; have := pow_le64 h; omega
theorem pow_dvdI {W : Nat} (h : W ≤ 64) : (2 : Int) ^ W ∣ 18446744073709551616 := by
  have := pow_split W h
  refine ⟨((2 ^ (64 - W) : Nat) : Int), ?_⟩
  rw [pow_cast, ← Int.natCast_mul, this]
  rfl
theorem mask_int (w : Int) : mask_s w + 1 = 2 ^ cw w := by
  rw [mask_eq, pow_cast]; have := Nat.two_pow_pos (cw w); omega
theorem cut_int (w : Int) {x : Int} (hx : 0 ≤ x ∧ x < 18446744073709551616) : cut_s w x = x % 2 ^ cw w := by
  have := cut_eq w x.toNat (by omega)
  rw [Int.toNat_of_nonneg hx.1] at this
  rw [this, pow_cast, Int.natCast_emod, Int.toNat_of_nonneg hx.1]
theorem mul64_eq (x y : Nat) (hx : x < 2 ^ 64) (hy : y < 2 ^ 64) : mul64_s (x : Int) (y : Int) = (((x * y / 2 ^ 64 : Nat) : Int), ((x * y % 2 ^ 64 : Nat) : Int)) := by
  unfold mul64_s
  have f32 : ∀ z : Int, z.fdiv (2 ^ 32) = z / 4294967296 := fun z => Int.fdiv_eq_ediv_of_nonneg _ (by decide)
  simp only [f32]
  have hm : ∀ z : Nat, z < 2 ^ 64 → Go.bits .and .u64 (z : Int) 4294967295 = ((z % 4294967296 : Nat) : Int) := fun z hz => by
    have := and_nat z (2 ^ 32 - 1) hz (by decide)
    rw [Nat.and_two_pow_sub_one_eq_mod] at this
    exact this
  obtain ⟨x1, x0, ex, hx1, hx0⟩ : ∃ x1 x0, x = x1 * 4294967296 + x0 ∧ x1 < 4294967296 ∧ x0 < 4294967296 := ⟨x / 4294967296, x % 4294967296, by omega, by omega, by omega⟩
  obtain ⟨y1, y0, ey, hy1, hy0⟩ : ∃ y1 y0, y = y1 * 4294967296 + y0 ∧ y1 < 4294967296 ∧ y0 < 4294967296 := ⟨y / 4294967296, y % 4294967296, by omega, by omega, by omega⟩
  have ax1 : (x : Int) / 4294967296 = (x1 : Int) := by omega
  have ay1 : (y : Int) / 4294967296 = (y1 : Int) := by omega
  have ax0 : Go.bits .and .u64 (x : Int) 4294967295 = (x0 : Int) := by rw [hm x hx]; omega
  have ay0 : Go.bits .and .u64 (y : Int) 4294967295 = (y0 : Int) := by rw [hm y hy]; omega
  rw [ax1, ay1, ax0, ay0]
  have bnd : ∀ a b : Nat, a < 4294967296 → b < 4294967296 → a * b ≤ 18446744065119617025 := fun a b ha hb => Nat.mul_le_mul (show a ≤ 4294967295 by omega) (show b ≤ 4294967295 by omega)
  have c00 := bnd x0 y0 hx0 hy0
  have c10 := bnd x1 y0 hx1 hy0
  have c01 := bnd x0 y1 hx0 hy1
  have c11 := bnd x1 y1 hx1 hy1
  have prod : x * y = (x1 * y1) * 18446744073709551616 + (x1 * y0 + x0 * y1) * 4294967296 + x0 * y0 := by
    rw [ex, ey, Nat.add_mul, Nat.mul_add, Nat.mul_add]
    have a1 : x1 * 4294967296 * (y1 * 4294967296) = x1 * y1 * 18446744073709551616 := by
      rw [Nat.mul_mul_mul_comm]
    have a2 : x1 * 4294967296 * y0 = x1 * y0 * 4294967296 := by rw [Nat.mul_right_comm]
    have a3 : x0 * (y1 * 4294967296) = x0 * y1 * 4294967296 := by rw [Nat.mul_assoc]
    rw [a1, a2, a3, Nat.add_mul]
    omega
  have w3 : IntKind.u64.wrap ((x : Int) * (y : Int)) = ((x * y % 2 ^ 64 : Nat) : Int) := by rw [← Int.natCast_mul, u64_nat]
  rw [w3]
  simp only [← Int.natCast_mul]
  generalize x0 * y0 = p00 at *
  generalize x1 * y0 = p10 at *
  generalize x0 * y1 = p01 at *
  generalize x1 * y1 = p11 at *
  rw [prod]
  have q1 : IntKind.u64.wrap (p00 : Int) = (p00 : Int) := u64_small (by omega) (by omega)
  have q2 : IntKind.u64.wrap (p10 : Int) = (p10 : Int) := u64_small (by omega) (by omega)
  have q3 : IntKind.u64.wrap (p01 : Int) = (p01 : Int) := u64_small (by omega) (by omega)
  have q4 : IntKind.u64.wrap (p11 : Int) = (p11 : Int) := u64_small (by omega) (by omega)
  rw [q1, q2, q3, q4]
  obtain ⟨t, ht⟩ : ∃ t : Nat, t = p10 + p00 / 4294967296 := ⟨_, rfl⟩
  have q5 : IntKind.u64.wrap ((p10 : Int) + (p00 : Int) / 4294967296) = (t : Int) := by rw [u64_small (by omega) (by omega)]; omega
  rw [q5, hm t (by omega)]
  obtain ⟨u, hu⟩ : ∃ u : Nat, u = t % 4294967296 + p01 := ⟨_, rfl⟩
  have q6 : IntKind.u64.wrap (((t % 4294967296 : Nat) : Int) + (p01 : Int)) = (u : Int) := by rw [u64_small (by omega) (by omega)]; omega
  rw [q6]
  congr 1
  rw [wrap_u64, wrap_u64]
  have e64 : (2 : Nat) ^ 64 = 18446744073709551616 := by decide
  rw [e64]
  omega
theorem mul64_int {x y : Int} (hx : 0 ≤ x ∧ x < 18446744073709551616) (hy : 0 ≤ y ∧ y < 18446744073709551616) : mul64_s x y = (x * y / 18446744073709551616, x * y % 18446744073709551616) := by
  have := mul64_eq x.toNat y.toNat (by omega) (by omega)
  rw [Int.toNat_of_nonneg hx.1, Int.toNat_of_nonneg hy.1] at this
  rw [this]
  have e : ((x.toNat * y.toNat : Nat) : Int) = x * y := by rw [Int.natCast_mul, Int.toNat_of_nonneg hx.1, Int.toNat_of_nonneg hy.1]
  rw [Int.natCast_ediv, Int.natCast_emod, e]
  rfl
/-! what a span has that is right -/
theorem sadd_eq {w m : Int} {W : Nat} (hw : cw w = W) (hW : W ≤ 64) (hk : mask_s w = m) (hm : m + 1 = 2 ^ W) {x y : Int} (hx : 0 ≤ x ∧ x ≤ m) (hy : 0 ≤ y ∧ y ≤ m) : sadd_s w x y = if x + y ≤ m then (x + y, 0) else (x + y - (m + 1), 1) := by
  have hp := pow_le64I hW
  have hd := pow_dvdI hW
  have hc := cut_int w (x := (x + y) % 18446744073709551616) (by omega)
  rw [hw, Int.emod_emod_of_dvd _ hd, ← hm] at hc
  have hmod : ¬ x + y ≤ m → (x + y) % (m + 1) = x + y - (m + 1) := fun h => by
    rw [← Int.sub_emod_right, Int.emod_eq_of_lt (by omega) (by omega)]
  unfold sadd_s
  rw [hk, hc]
  by_cases h : x + y ≤ m
  · rw [if_pos h, decide_eq_false (by omega), decide_eq_false (by omega)]
    show ((x + y) % 18446744073709551616, (0 : Int)) = _
    rw [Int.emod_eq_of_lt (by omega) (by omega)]
  · rw [if_neg h, hmod h]
    by_cases h1 : (x + y) / 18446744073709551616 > 0
    · rw [decide_eq_true h1]; rfl
    · rw [decide_eq_false h1, decide_eq_true (by omega)]; rfl
theorem stak_eq {w m : Int} {W : Nat} (hw : cw w = W) (hW : W ≤ 64) (hm : m + 1 = 2 ^ W) {x y : Int} (hx : 0 ≤ x ∧ x ≤ m) (hy : 0 ≤ y ∧ y ≤ m) : stak_s w x y = if y > x then (x - y + (m + 1), 1) else (x - y, 0) := by
  have hp := pow_le64I hW
  have hd := pow_dvdI hW
  have hc := cut_int w (x := IntKind.u64.wrap (x - y)) (wrap_u64_rng _)
  rw [hw, wrap_u64, Int.emod_emod_of_dvd _ hd, ← hm] at hc
  unfold stak_s
  by_cases h : y > x
  · rw [decide_eq_true h, if_pos h, wrap_u64, hc]
    show ((x - y) % (m + 1), (1 : Int)) = _
    rw [← Int.add_emod_right, Int.emod_eq_of_lt (by omega) (by omega)]
  · rw [decide_eq_false h, if_neg h, wrap_u64]
    show ((x - y) % 18446744073709551616, (0 : Int)) = _
    rw [Int.emod_eq_of_lt (by omega) (by omega)]
theorem srig_in {w a b : Int} (h1 : a ≤ b) (h2 : b ≤ mask_s w) : srig_s w a b = (a, b) := by
  unfold srig_s
  rw [decide_eq_false (by omega), decide_eq_false (by omega)]; rfl
theorem stim_eq {w m : Int} (hk : mask_s w = m) (hm : m < 18446744073709551616) {x y : Int} (hx : 0 ≤ x ∧ x < 18446744073709551616) (hy : 0 ≤ y ∧ y < 18446744073709551616) : stim_s w x y = (x * y % 18446744073709551616, decide (x * y ≤ m)) := by
  have hxy : 0 ≤ x * y := Int.mul_nonneg hx.1 hy.1
  unfold stim_s
  rw [mul64_int hx hy, hk]
  generalize x * y = z at *
  by_cases h : z / 18446744073709551616 = 0
  · rw [show ((z / 18446744073709551616) == (0 : Int)) = true by rw [h]; rfl]
    show (_, decide (z % 18446744073709551616 ≤ m)) = _
    rw [show z % 18446744073709551616 = z by omega]
  · rw [show ((z / 18446744073709551616) == (0 : Int)) = false from beq_eq_false_iff_ne.2 h, decide_eq_false (show ¬ z ≤ m by omega)]
    rfl
end Go.Proofs.YtahobmjchppciaaDoor.Sx.M5
/- SpanTells: what both tables say. -/
open Go Go.Proofs Go.RowKit
namespace Go.Proofs.YtahobmjchppciaaDoor.Sx.M5
set_option linter.unusedVariables false
set_option linter.unusedSimpArgs false
def chk (b v : Nat) : Bool := Nat.blt b (2 ^ v) && (bif Nat.beq b 0 then Nat.beq v 0 else Nat.ble 1 v && Nat.ble (2 ^ (v - 1)) b)
def chkAll : Nat → List Nat → Bool
  | _, [] => true
  | b, v :: l => chk b v && chkAll (b + 1) l
theorem chkAll_t : ∀ (l : List Nat) (b : Nat), chkAll b l = true → ∀ j, j < l.length → chk (b + j) (l.getD j 0) = true
  | [], _, _, j, hj => absurd hj (Nat.not_lt_zero _)
  | v :: l, b, h, j, hj => by
    obtain ⟨h1, h2⟩ := Bool.and_eq_true_iff.1 h
    cases j with
    | zero => exact h1
    | succ j =>
      have := chkAll_t l (b + 1) h2 j (Nat.lt_of_succ_lt_succ hj)
      rwa [show b + 1 + j = b + (j + 1) by omega] at this
def len8n : List Nat := [0, 1, 2, 2, 3, 3, 3, 3, 4, 4, 4, 4, 4, 4, 4, 4, 5, 5, 5, 5, 5, 5, 5, 5, 5, 5, 5, 5, 5, 5, 5, 5, 6, 6, 6, 6, 6, 6, 6, 6, 6, 6, 6, 6, 6, 6, 6, 6, 6, 6, 6, 6, 6, 6, 6, 6, 6, 6, 6, 6, 6, 6, 6, 6, 7, 7, 7, 7, 7, 7, 7, 7, 7, 7, 7, 7, 7, 7, 7, 7, 7, 7, 7, 7, 7, 7, 7, 7, 7, 7, 7, 7, 7, 7, 7, 7, 7, 7, 7, 7, 7, 7, 7, 7, 7, 7, 7, 7, 7, 7, 7, 7, 7, 7, 7, 7, 7, 7, 7, 7, 7, 7, 7, 7, 7, 7, 7, 7, 8, 8, 8, 8, 8, 8, 8, 8, 8, 8, 8, 8, 8, 8, 8, 8, 8, 8, 8, 8, 8, 8, 8, 8, 8, 8, 8, 8, 8, 8, 8, 8, 8, 8, 8, 8, 8, 8, 8, 8, 8, 8, 8, 8, 8, 8, 8, 8, 8, 8, 8, 8, 8, 8, 8, 8, 8, 8, 8, 8, 8, 8, 8, 8, 8, 8, 8, 8, 8, 8, 8, 8, 8, 8, 8, 8, 8, 8, 8, 8, 8, 8, 8, 8, 8, 8, 8, 8, 8, 8, 8, 8, 8, 8, 8, 8, 8, 8, 8, 8, 8, 8, 8, 8, 8, 8, 8, 8, 8, 8, 8, 8, 8, 8, 8, 8, 8, 8, 8, 8, 8, 8, 8, 8, 8, 8, 8, 8]
theorem len8n_eq : len8b.data.toList.map UInt8.toNat = len8n := by kernel_rfl
theorem len8n_ok : chkAll 0 len8n = true := by kernel_rfl
theorem byte_len (b : _root_.Fin 256) : ∃ v : Nat, sByte len8b (b.val : Int) = v ∧ (b.val : Int) < 2 ^ v ∧ (b.val ≠ 0 → 1 ≤ v ∧ 2 ^ (v - 1) ≤ (b.val : Int)) ∧ (b.val = 0 → v = 0) := by
  have hl : len8n.length = 256 := by kernel_rfl
  have h := chkAll_t len8n 0 len8n_ok b.val (by rw [hl]; exact b.isLt)
  have hv : (len8b.data.toList.getD b.val 0).toNat = len8n.getD b.val 0 := by
    rw [← len8n_eq, List.getD_eq_getElem?_getD, List.getD_eq_getElem?_getD, List.getElem?_map]
    cases len8b.data.toList[b.val]? <;> rfl
  rw [Nat.zero_add] at h
  unfold chk at h
  obtain ⟨h1, h2⟩ := Bool.and_eq_true_iff.1 h
  refine ⟨len8n.getD b.val 0, ?_, ?_, fun hb => ?_, fun hb => ?_⟩
  · unfold sByte
    rw [Int.toNat_natCast, hv]
  · rw [pow_cast]; exact Int.ofNat_lt.2 (Nat.blt_eq ▸ h1)
  · rw [show Nat.beq b.val 0 = false by cases hq : Nat.beq b.val 0 with
      | false => rfl
      | true => exact absurd (Nat.eq_of_beq_eq_true hq) hb] at h2
    obtain ⟨h3, h4⟩ := Bool.and_eq_true_iff.1 h2
    refine ⟨Nat.le_of_ble_eq_true h3, ?_⟩
    rw [pow_cast]; exact Int.ofNat_le.2 (Nat.le_of_ble_eq_true h4)
  · rw [hb] at h2
    rw [hb]
    exact Nat.eq_of_beq_eq_true h2
/-- How many bits a number has. -/
def LenOf (x : Int) (L : Nat) : Prop := L ≤ 64 ∧ x < 2 ^ L ∧ (L = 0 ∨ 2 ^ (L - 1) ≤ x)
theorem wrap_two {s v : Int} (h0 : 0 ≤ s) (h1 : s ≤ 56) (h2 : 0 ≤ v) (h3 : v ≤ 8) : IntKind.i64.wrap (s + IntKind.i64.wrap v) = s + v := by
  rw [IntKind.wrap_i64, IntKind.wrap_i64]; omega
theorem len_leaf {x : Int} (hx : 0 ≤ x) (s : Nat) (hs : s ≤ 56) (h0 : s = 0 ∨ 1 ≤ x / 2 ^ s) (h1 : x / 2 ^ s < 256) : ∃ L : Nat, IntKind.i64.wrap ((s : Int) + IntKind.i64.wrap (sByte len8b (IntKind.u8.wrap (x / 2 ^ s)))) = L ∧ LenOf x L := by
  have hp := pow_ge1 s
  have hq : 0 ≤ x / 2 ^ s := Int.ediv_nonneg hx (by omega)
  obtain ⟨b, hb⟩ : ∃ b : Nat, x / 2 ^ s = b := ⟨(x / 2 ^ s).toNat, by omega⟩
  rw [hb] at h0 h1 ⊢
  obtain ⟨v, hv, B⟩ := byte_len ⟨b, by omega⟩
  simp only at B hv
  have hr := sByte_len8 (b : Int)
  rw [wrap_u8, show (b : Int) % 256 = b by omega]
  rw [hv] at hr ⊢
  have hdm := Int.mul_ediv_add_emod x (2 ^ s)
  rw [hb] at hdm
  have hm0 := Int.emod_nonneg x (show (2 : Int) ^ s ≠ 0 by omega)
  have hm1 := Int.emod_lt_of_pos x (show (0 : Int) < 2 ^ s by omega)
  refine ⟨s + v, wrap_two (by omega) (by omega) (by omega) (by omega), by omega, ?_, ?_⟩
  · rw [Int.pow_add]
    have : 2 ^ s * ((b : Int) + 1) ≤ 2 ^ s * 2 ^ v := Int.mul_le_mul_of_nonneg_left (by have := B.1; omega) (by omega)
    rw [Int.mul_add] at this
    omega
  · by_cases hz : b = 0
    · left
      have := B.2.2 hz
      rcases h0 with h0 | h0
      · omega
      · omega
    · right
      obtain ⟨B1, B2⟩ := B.2.1 hz
      rw [show s + v - 1 = s + (v - 1) by omega, Int.pow_add]
      have : 2 ^ s * 2 ^ (v - 1) ≤ 2 ^ s * (b : Int) := Int.mul_le_mul_of_nonneg_left B2 (by omega)
      omega
theorem len64_is {x : Int} (hx : 0 ≤ x ∧ x < 18446744073709551616) : ∃ L : Nat, len64_s x = L ∧ LenOf x L := by
  have f : ∀ (z : Int) (k : Nat), z.fdiv (2 ^ k) = z / 2 ^ k := fun z k => Int.fdiv_eq_ediv_of_nonneg _ (by have := pow_ge1 k; omega)
  have d : ∀ (z : Int) (j k : Nat), z / 2 ^ j / 2 ^ k = z / 2 ^ (j + k) := fun z j k => by
    rw [Int.pow_add, Int.ediv_ediv_of_nonneg (by have := pow_ge1 j; omega)]
  unfold len64_s
  simp only [f, d, Nat.reduceAdd]
  have n0 : x / 2 ^ 0 = x := by rw [Int.pow_zero, Int.ediv_one]
  have L := fun s hs h0 h1 => len_leaf hx.1 s hs h0 h1
  have e32 : x / 2 ^ 32 = x / 4294967296 := rfl
  have e16 : x / 2 ^ 16 = x / 65536 := rfl
  have e8 : x / 2 ^ 8 = x / 256 := rfl
  have e48 : x / 2 ^ 48 = x / 281474976710656 := rfl
  have e40 : x / 2 ^ 40 = x / 1099511627776 := rfl
  have e56 : x / 2 ^ 56 = x / 72057594037927936 := rfl
  have e24 : x / 2 ^ 24 = x / 16777216 := rfl
  by_cases c1 : x ≥ 4294967296
  · rw [decide_eq_true c1]
    simp only [cond_true]
    by_cases c2 : x / 2 ^ 32 ≥ 65536
    · rw [decide_eq_true c2]
      simp only [cond_true]
      by_cases c3 : x / 2 ^ 48 ≥ 256
      · rw [decide_eq_true c3]; exact L 56 (by omega) (.inr (by omega)) (by omega)
      · rw [decide_eq_false c3]; exact L 48 (by omega) (.inr (by omega)) (by omega)
    · rw [decide_eq_false c2]
      simp only [cond_false]
      by_cases c3 : x / 2 ^ 32 ≥ 256
      · rw [decide_eq_true c3]; exact L 40 (by omega) (.inr (by omega)) (by omega)
      · rw [decide_eq_false c3]; exact L 32 (by omega) (.inr (by omega)) (by omega)
  · rw [decide_eq_false c1]
    simp only [cond_false]
    by_cases c2 : x ≥ 65536
    · rw [decide_eq_true c2]
      simp only [cond_true]
      by_cases c3 : x / 2 ^ 16 ≥ 256
      · rw [decide_eq_true c3]; exact L 24 (by omega) (.inr (by omega)) (by omega)
      · rw [decide_eq_false c3]; exact L 16 (by omega) (.inr (by omega)) (by omega)
    · rw [decide_eq_false c2]
      simp only [cond_false]
      by_cases c3 : x ≥ 256
      · rw [decide_eq_true c3]; exact L 8 (by omega) (.inr (by omega)) (by omega)
      · rw [decide_eq_false c3]
        have := L 0 (by omega) (.inl rfl) (by rw [n0]; omega)
        rw [n0] at this
        exact this
end Go.Proofs.YtahobmjchppciaaDoor.Sx.M5
/- What an operation's span holds. -/
open Go Go.Proofs Go.RowKit
namespace Go.Proofs.YtahobmjchppciaaDoor.Sx.M5
set_option linter.unusedVariables false
set_option linter.unusedSimpArgs false
set_option linter.unusedSimpArgs false
/-- A number is in a span. -/
def In (s : Int × Int) (n : Nat) : Prop := s.1 ≤ (n : Int) ∧ (n : Int) ≤ s.2
section
variable {W x0 x1 y0 y1 a b : Nat}
structure Bd (W x0 x1 y0 y1 a b : Nat) : Prop where
  h1 : 1 ≤ W
  hW : W ≤ 64
  a0 : x0 ≤ a
  a1 : a ≤ x1
  x1 : x1 < 2 ^ W
  b0 : y0 ≤ b
  b1 : b ≤ y1
  y1 : y1 < 2 ^ W
theorem Bd.hp (B : Bd W x0 x1 y0 y1 a b) : 1 ≤ 2 ^ W ∧ 2 ^ W ≤ 2 ^ 64 := ⟨Nat.two_pow_pos W, pow_le64 B.hW⟩
theorem Bd.cw (B : Bd W x0 x1 y0 y1 a b) : cw (W : Int) = W := cw_of B.h1 B.hW
theorem Bd.mask (B : Bd W x0 x1 y0 y1 a b) : mask_s (W : Int) = ((2 ^ W - 1 : Nat) : Int) := by rw [mask_eq, B.cw]
theorem Bd.maskI (B : Bd W x0 x1 y0 y1 a b) : ((2 ^ W - 1 : Nat) : Int) + 1 = 2 ^ W := by rw [pow_cast]; have := B.hp; omega
theorem Bd.whole (B : Bd W x0 x1 y0 y1 a b) {n : Nat} (h : n < 2 ^ W) : In ((whol_s (W : Int)).1, (whol_s (W : Int)).2) n := by
  unfold whol_s
  rw [B.mask]
  exact ⟨Int.natCast_nonneg _, by show (n : Int) ≤ ((2 ^ W - 1 : Nat) : Int); omega⟩
theorem sful_eq {x y : Int} {L : Nat} (hx : 0 ≤ x ∧ x < 18446744073709551616) (hy : 0 ≤ y ∧ y < 18446744073709551616) (hL : LenOf (max x y) L) : sful_s x y = ((2 ^ L - 1 : Nat) : Int) := by
  obtain ⟨L', e, h⟩ := len64_is (x := max x y) (by omega)
  have : L' = L := by
    obtain ⟨p1, p2, p3⟩ := h
    obtain ⟨q1, q2, q3⟩ := hL
    rw [pow_cast] at p2 p3 q2 q3
    rcases Nat.lt_trichotomy L' L with c | c | c
    · have := Nat.pow_le_pow_right (show 0 < 2 by decide) (show L' ≤ L - 1 by omega); omega
    · exact c
    · have := Nat.pow_le_pow_right (show 0 < 2 by decide) (show L ≤ L' - 1 by omega); omega
  subst this
  unfold sful_s
  rw [e]
  by_cases c : L' = 0
  · rw [c]; rfl
  · rw [show ((L' : Int) == (0 : Int)) = false from beq_eq_false_iff_ne.2 (by omega), cond_false]
    have e2 : ((64 : Int) - (L' : Int)).toNat = 64 - L' := by have := hL.1; omega
    rw [e2]
    have := shr_nat (2 ^ 64 - 1) (64 - L') (by omega)
    rw [mask_div L' hL.1] at this
    exact this
theorem full_in (B : Bd W x0 x1 y0 y1 a b) : ∃ L : Nat, sful_s (x1 : Int) (y1 : Int) = ((2 ^ L - 1 : Nat) : Int) ∧ a < 2 ^ L ∧ b < 2 ^ L := by
  have hp := B.hp
  have h1 := B.x1
  have h2 := B.y1
  obtain ⟨L, e, h⟩ := len64_is (x := max (x1 : Int) (y1 : Int)) (by omega)
  refine ⟨L, sful_eq (by omega) (by omega) h, ?_, ?_⟩
  · have := h.2.1; rw [pow_cast] at this; have := B.a1; omega
  · have := h.2.1; rw [pow_cast] at this; have := B.b1; omega
theorem truth_in (yes no : Bool) (p : Prop) [Decidable p] (hy : yes = true → p) (hn : no = true → ¬ p) : In ((stru_s yes no).1, (stru_s yes no).2) (if p then 1 else 0) := by
  unfold stru_s
  cases yes with
  | true => rw [if_pos (hy rfl)]; exact ⟨Int.le_refl _, Int.le_refl _⟩
  | false =>
    cases no with
    | true => rw [if_neg (hn rfl)]; exact ⟨Int.le_refl _, Int.le_refl _⟩
    | false => split <;> exact ⟨by decide, by decide⟩
theorem down_in (B : Bd W x0 x1 y0 y1 a b) : In (sdow_s (W : Int) (x0 : Int) (y1 : Int), sdow_s (W : Int) (x1 : Int) (y0 : Int)) (if W ≤ b then 0 else a / 2 ^ b) := by
  have hp := B.hp
  have q := B.x1
  have q2 := B.y1
  have q3 := B.a0
  have q4 := B.a1
  have q5 := B.b0
  have q6 := B.b1
  have ap : ∀ x y : Nat, applyN 17 W x y = if W ≤ y then 0 else x / 2 ^ y := fun x y => by simp [applyN]
  unfold sdow_s
  rw [apply1_eq 17 _ _ _ (by omega) (by omega), apply1_eq 17 _ _ _ (by omega) (by omega), B.cw, Nat.mod_eq_of_lt (by omega), Nat.mod_eq_of_lt (by omega), Nat.mod_eq_of_lt (by omega), Nat.mod_eq_of_lt (by omega), ap, ap]
  have pw : ∀ {i j : Nat}, i ≤ j → 2 ^ i ≤ 2 ^ j := fun h => Nat.pow_le_pow_right (by decide) h
  have dm : ∀ {x x' i j : Nat}, x ≤ x' → j ≤ i → x / 2 ^ i ≤ x' / 2 ^ j := fun h h' => Nat.div_le_div h (pw h') (Nat.ne_of_gt (Nat.two_pow_pos _))
  constructor
  · show (((if W ≤ y1 then 0 else x0 / 2 ^ y1 : Nat)) : Int) ≤ ((if W ≤ b then 0 else a / 2 ^ b : Nat) : Int)
    apply Int.ofNat_le.2
    by_cases c : W ≤ y1
    · rw [if_pos c]; exact Nat.zero_le _
    · rw [if_neg c, if_neg (by omega)]; exact dm q3 q6
  · show ((if W ≤ b then 0 else a / 2 ^ b : Nat) : Int) ≤ (((if W ≤ y0 then 0 else x1 / 2 ^ y0 : Nat)) : Int)
    apply Int.ofNat_le.2
    by_cases c : W ≤ b
    · rw [if_pos c]; exact Nat.zero_le _
    · rw [if_neg c, if_neg (by omega)]; exact dm q4 q5
theorem tab_in (op : Int) (ho : op = 5 ∨ op = 8 ∨ op = 9 ∨ op = 10 ∨ op = 11 ∨ op = 12 ∨ op = 13 ∨ op = 14 ∨ op = 15 ∨ op = 16 ∨ op = 17 ∨ op = 18 ∨ op = 19 ∨ op = 20 ∨ op = 21) (B : Bd W x0 x1 y0 y1 a b) : In (stab_s op (W : Int) (x0 : Int) (x1 : Int) (y0 : Int) (y1 : Int)) (applyN op W a b) := by
  have hp := B.hp
  have q := B.x1
  have q2 := B.y1
  have q3 := B.a0
  have q4 := B.a1
  have q5 := B.b0
  have q6 := B.b1
  have h64 := B.hW
  have hlt := apply_lt op B.h1 (show a < 2 ^ W by omega) (show b < 2 ^ W by omega)
  have hs := half_split W B.h1
  have hv := Nat.two_pow_pos (W - 1)
  unfold stab_s
  rcases ho with rfl | rfl | rfl | rfl | rfl | rfl | rfl | rfl | rfl | rfl | rfl | rfl | rfl | rfl | rfl <;> simp only [Int.reduceBEq, cond_true, cond_false]
  · have e : applyN 5 W a b = 2 ^ W - 1 - a := by simp [applyN]
    rw [e, B.mask, u64_small (by omega) (by omega), u64_small (by omega) (by omega)]
    exact ⟨by show _ ≤ _; simp only []; omega, by show _ ≤ _; simp only []; omega⟩
  · have e : applyN 8 W a b = (a + b) % 2 ^ W := by simp [applyN]
    rw [e] at hlt ⊢
    unfold sbo1_s stb1_s stb2_s
    rw [sadd_eq B.cw B.hW B.mask B.maskI (by omega) (by omega), sadd_eq B.cw B.hW B.mask B.maskI (by omega) (by omega)]
    by_cases c1 : (x0 : Int) + y0 ≤ ((2 ^ W - 1 : Nat) : Int)
    · by_cases c2 : (x1 : Int) + y1 ≤ ((2 ^ W - 1 : Nat) : Int)
      · rw [if_pos c1, if_pos c2]
        simp only [bne_self_eq_false, cond_false]
        rw [srig_in (by omega) (by rw [B.mask]; exact c2), Nat.mod_eq_of_lt (by omega)]
        exact ⟨by show _ ≤ _; simp only []; omega, by show _ ≤ _; simp only []; omega⟩
      · rw [if_pos c1, if_neg c2]; exact B.whole hlt
    · by_cases c2 : (x1 : Int) + y1 ≤ ((2 ^ W - 1 : Nat) : Int)
      · rw [if_neg c1, if_pos c2]; exact B.whole hlt
      · rw [if_neg c1, if_neg c2]
        simp only [bne_self_eq_false, cond_false]
        rw [srig_in (by omega) (by rw [B.mask]; omega), Nat.mod_eq_sub_mod (by omega), Nat.mod_eq_of_lt (by omega)]
        exact ⟨by show _ ≤ _; simp only []; omega, by show _ ≤ _; simp only []; omega⟩
  · have e : applyN 9 W a b = (a + (2 ^ W - b)) % 2 ^ W := by simp [applyN]
    rw [e] at hlt ⊢
    unfold sbo2_s stb3_s stb4_s
    rw [stak_eq B.cw B.hW B.maskI (by omega) (by omega), stak_eq B.cw B.hW B.maskI (by omega) (by omega)]
    by_cases c1 : (y1 : Int) > x0
    · by_cases c2 : (y0 : Int) > x1
      · rw [if_pos c1, if_pos c2]
        simp only [bne_self_eq_false, cond_false]
        rw [srig_in (by omega) (by rw [B.mask]; omega), Nat.mod_eq_of_lt (by omega)]
        exact ⟨by show _ ≤ _; simp only []; omega, by show _ ≤ _; simp only []; omega⟩
      · rw [if_pos c1, if_neg c2]; exact B.whole hlt
    · by_cases c2 : (y0 : Int) > x1
      · rw [if_neg c1, if_pos c2]; exact B.whole hlt
      · rw [if_neg c1, if_neg c2]
        simp only [bne_self_eq_false, cond_false]
        rw [srig_in (by omega) (by rw [B.mask]; omega), Nat.mod_eq_sub_mod (by omega), Nat.mod_eq_of_lt (by omega)]
        exact ⟨by show _ ≤ _; simp only []; omega, by show _ ≤ _; simp only []; omega⟩
  · have e : applyN 10 W a b = a * b % 2 ^ W := by simp [applyN]
    rw [e] at hlt ⊢
    rw [stim_eq B.mask (by omega) (by omega) (by omega)]
    by_cases c : (x1 : Int) * y1 ≤ ((2 ^ W - 1 : Nat) : Int)
    · rw [decide_eq_true c]
      have u1 : x0 * y0 ≤ a * b := Nat.mul_le_mul q3 q5
      have u2 : a * b ≤ x1 * y1 := Nat.mul_le_mul q4 q6
      rw [← Int.natCast_mul] at c
      rw [← Int.natCast_mul, ← Int.natCast_mul, u64_small (by omega) (by omega), Int.emod_eq_of_lt (by omega) (by omega), Nat.mod_eq_of_lt (by omega)]
      exact ⟨by show _ ≤ _; simp only [cond_true]; omega, by show _ ≤ _; simp only [cond_true]; omega⟩
    · rw [decide_eq_false c]; exact B.whole hlt
  · have e : applyN 11 W a b = if b = 0 then 2 ^ W - 1 else a / b := by simp [applyN]
    rw [e] at hlt ⊢
    unfold sdiv_s
    simp only [Int.reduceBEq, cond_true]
    by_cases c : y0 = 0
    · rw [c]; exact B.whole hlt
    · rw [show ((y0 : Int) == (0 : Int)) = false from beq_eq_false_iff_ne.2 (by omega), cond_false, if_neg (by omega)]
      have e1 : ((x0 : Int)).tdiv (y1 : Int) = ((x0 / y1 : Nat) : Int) := rfl
      have e2 : ((x1 : Int)).tdiv (y0 : Int) = ((x1 / y0 : Nat) : Int) := rfl
      have u1 : x0 / y1 ≤ a / b := Nat.div_le_div q3 q6 (by omega)
      have u2 : a / b ≤ x1 / y0 := Nat.div_le_div q4 q5 c
      have u3 : x1 / y0 ≤ x1 := Nat.div_le_self _ _
      rw [e1, e2, u64_small (Int.natCast_nonneg _) (by omega), u64_small (Int.natCast_nonneg _) (by omega)]
      exact ⟨Int.ofNat_le.2 u1, Int.ofNat_le.2 u2⟩
  · have e : applyN 12 W a b = if b = 0 then a else a % b := by simp [applyN]
    rw [e] at hlt ⊢
    unfold sdiv_s
    simp only [Int.reduceBEq, cond_false]
    have u1 : a % b ≤ a := Nat.mod_le _ _
    by_cases c : (x1 : Int) < y0
    · rw [decide_eq_true c, cond_true, if_neg (by omega), Nat.mod_eq_of_lt (by omega)]
      exact ⟨by show _ ≤ _; simp only []; omega, by show _ ≤ _; simp only []; omega⟩
    · rw [decide_eq_false c, cond_false]
      by_cases d : y0 = 0
      · rw [d]
        refine ⟨Int.natCast_nonneg _, ?_⟩
        show ((if b = 0 then a else a % b : Nat) : Int) ≤ (x1 : Int)
        split <;> omega
      · rw [show ((y0 : Int) != (0 : Int)) = true from bne_iff_ne.2 (by omega), cond_true, if_neg (by omega), u64_small (by omega) (by omega)]
        have u2 : a % b < b := Nat.mod_lt _ (by omega)
        exact ⟨Int.natCast_nonneg _, by show ((a % b : Nat) : Int) ≤ min (x1 : Int) ((y1 : Int) - 1); omega⟩
  · have e : applyN 13 W a b = a &&& b := by simp [applyN]
    rw [e]
    have u1 : a &&& b ≤ a := Nat.and_le_left
    have u2 : a &&& b ≤ b := Nat.and_le_right
    exact ⟨Int.natCast_nonneg _, by show ((a &&& b : Nat) : Int) ≤ min (x1 : Int) (y1 : Int); omega⟩
  · have e : applyN 14 W a b = a ||| b := by simp [applyN]
    rw [e]
    obtain ⟨L, e1, l1, l2⟩ := full_in B
    have u1 : a ≤ a ||| b := Nat.left_le_or
    have u2 : b ≤ a ||| b := Nat.right_le_or
    have u3 := Nat.or_lt_two_pow l1 l2
    rw [e1]
    exact ⟨by show max (x0 : Int) (y0 : Int) ≤ ((a ||| b : Nat) : Int); omega, by show ((a ||| b : Nat) : Int) ≤ ((2 ^ L - 1 : Nat) : Int); omega⟩
  · have e : applyN 15 W a b = a ^^^ b := by simp [applyN]
    rw [e]
    obtain ⟨L, e1, l1, l2⟩ := full_in B
    have u3 := Nat.xor_lt_two_pow l1 l2
    rw [e1]
    exact ⟨Int.natCast_nonneg _, by show ((a ^^^ b : Nat) : Int) ≤ ((2 ^ L - 1 : Nat) : Int); omega⟩
  · have e : applyN 16 W a b = if W ≤ b then 0 else a * 2 ^ b % 2 ^ W := by simp [applyN]
    rw [e] at hlt ⊢
    unfold smov_s
    simp only [Int.reduceBEq, cond_true]
    rw [u64_small (n := (W : Int)) (by omega) (by omega)]
    by_cases c : (y1 : Int) < (W : Int)
    · have p1 : (2 : Nat) ^ y1 < 2 ^ 64 := Nat.pow_lt_pow_right (by decide) (by omega)
      rw [decide_eq_true c, cond_true, Int.toNat_natCast, Int.toNat_natCast, shl_nat _ _ (by omega), show (1 : Int) * 2 ^ min y1 64 = ((1 : Nat) : Int) * 2 ^ min y1 64 from rfl, shl_nat _ _ (by omega), Nat.one_mul, Nat.mod_eq_of_lt p1, stim_eq B.mask (by omega) (by omega) ⟨Int.natCast_nonneg _, by omega⟩, if_neg (by omega)]
      by_cases d : (x1 : Int) * ((2 ^ y1 : Nat) : Int) ≤ ((2 ^ W - 1 : Nat) : Int)
      · rw [decide_eq_true d]
        have u1 : x0 * 2 ^ y0 ≤ a * 2 ^ b := Nat.mul_le_mul q3 (Nat.pow_le_pow_right (by decide) q5)
        have u2 : a * 2 ^ b ≤ x1 * 2 ^ y1 := Nat.mul_le_mul q4 (Nat.pow_le_pow_right (by decide) q6)
        rw [← Int.natCast_mul] at d
        rw [← Int.natCast_mul, Int.emod_eq_of_lt (by omega) (by omega), Nat.mod_eq_of_lt (by omega), Nat.mod_eq_of_lt (by omega)]
        exact ⟨Int.ofNat_le.2 u1, Int.ofNat_le.2 u2⟩
      · rw [decide_eq_false d]; rw [if_neg (by omega)] at hlt; exact B.whole hlt
    · rw [decide_eq_false c]; exact B.whole hlt
  · have e : applyN 17 W a b = if W ≤ b then 0 else a / 2 ^ b := by simp [applyN]
    rw [e]
    unfold smov_s
    simp only [Int.reduceBEq, cond_false]
    exact down_in B
  · have e : applyN 18 W a b = sarN W a b := by simp [applyN]
    rw [e] at hlt ⊢
    unfold smov_s
    simp only [Int.reduceBEq, cond_false, cond_true]
    have e1 : ((2 ^ W - 1 : Nat) : Int).tdiv 2 = (((2 ^ W - 1) / 2 : Nat) : Int) := rfl
    rw [B.mask, e1, u64_small (by omega) (by omega)]
    by_cases c : (x1 : Int) > (((2 ^ W - 1) / 2 : Nat) : Int)
    · rw [decide_eq_true c]; exact B.whole hlt
    · rw [decide_eq_false c, cond_false]
      have e2 : sarN W a b = if W ≤ b then 0 else a / 2 ^ b := by unfold sarN; rw [if_neg (by omega)]
      rw [e2]
      exact down_in B
  · have e : applyN 19 W a b = if a = b then 1 else 0 := by simp [applyN]
    rw [e]
    by_cases c : (x1 : Int) < y0
    · rw [decide_eq_true c, cond_true]
      exact truth_in false true (a = b) (fun h => by cases h) (fun _ => by omega)
    · rw [decide_eq_false c, cond_false]
      refine truth_in false _ (a = b) (fun h => by cases h) (fun h => ?_)
      have := of_decide_eq_true h
      omega
  · have e : applyN 20 W a b = if a < b then 1 else 0 := by simp [applyN]
    rw [e]
    refine truth_in _ _ (a < b) (fun h => ?_) (fun h => ?_)
    · have := of_decide_eq_true h; omega
    · have := of_decide_eq_true h; omega
  · have e : applyN 21 W a b = if lessS W a b = true then 1 else 0 := by simp [applyN]
    rw [e]
    have le : lessS W a b = true ↔ (if 2 ^ (W - 1) ≤ a then (if 2 ^ (W - 1) ≤ b then a < b else True) else (if 2 ^ (W - 1) ≤ b then False else a < b)) := by
      unfold lessS
      split <;> split <;> simp
    unfold sbel_s sbe1_s sbe2_s
    have e1 : ((2 ^ W - 1 : Nat) : Int).tdiv 2 = (((2 ^ W - 1) / 2 : Nat) : Int) := rfl
    have eT : IntKind.u64.wrap (((2 ^ W - 1 : Nat) : Int) - IntKind.u64.wrap (((2 ^ W - 1) / 2 : Nat) : Int)) = ((2 ^ (W - 1) : Nat) : Int) := by
      rw [u64_small (n := (((2 ^ W - 1) / 2 : Nat) : Int)) (by omega) (by omega), u64_small (by omega) (by omega)]; omega
    rw [B.mask, e1, eT]
    generalize 2 ^ (W - 1) = T at *
    have big : ∀ yes no : Bool, (yes = true → (if T ≤ a then (if T ≤ b then a < b else True) else (if T ≤ b then False else a < b))) → (no = true → ¬ (if T ≤ a then (if T ≤ b then a < b else True) else (if T ≤ b then False else a < b))) → In ((stru_s yes no).1, (stru_s yes no).2) (if lessS W a b = true then 1 else 0) := fun yes no h h' => truth_in yes no (lessS W a b = true) (fun q => le.2 (h q)) (fun q => fun r => h' q (le.1 r))
    cases c1 : decide ((x1 : Int) < (T : Int)) with
    | true =>
      have c1 := of_decide_eq_true c1
      cases c2 : decide ((y1 : Int) < (T : Int)) with
      | true =>
        have c2 := of_decide_eq_true c2
        refine big _ _ (fun h => ?_) (fun h => ?_)
        · have := of_decide_eq_true h; rw [if_neg (by omega), if_neg (by omega)]; omega
        · have := of_decide_eq_true h; rw [if_neg (by omega), if_neg (by omega)]; omega
      | false =>
        have c2 := of_decide_eq_false c2
        simp only [cond_true, cond_false]
        cases c3 : decide ((x0 : Int) ≥ (T : Int)) with
        | true => have c3 := of_decide_eq_true c3; omega
        | false =>
          simp only [cond_true, cond_false]
          refine big _ _ (fun h => ?_) (fun h => ?_)
          · cases h
          · have := of_decide_eq_true h; rw [if_neg (by omega), if_pos (by omega)]; exact id
    | false =>
      have c1 := of_decide_eq_false c1
      simp only [cond_true, cond_false]
      cases c3 : decide ((x0 : Int) ≥ (T : Int)) with
      | true =>
        have c3 := of_decide_eq_true c3
        simp only [cond_true, cond_false]
        cases c4 : decide ((y0 : Int) ≥ (T : Int)) with
        | true =>
          have c4 := of_decide_eq_true c4
          simp only [cond_true, cond_false]
          refine big _ _ (fun h => ?_) (fun h => ?_)
          · have := of_decide_eq_true h; rw [if_pos (by omega), if_pos (by omega)]; omega
          · have := of_decide_eq_true h; rw [if_pos (by omega), if_pos (by omega)]; omega
        | false =>
          simp only [cond_true, cond_false]
          refine big _ _ (fun h => ?_) (fun h => ?_)
          · have := of_decide_eq_true h; rw [if_pos (by omega), if_neg (by omega)]; trivial
          · cases h
      | false =>
        simp only [cond_true, cond_false]
        exact big _ _ (fun h => by cases h) (fun h => by cases h)
end
end Go.Proofs.YtahobmjchppciaaDoor.Sx.M5
