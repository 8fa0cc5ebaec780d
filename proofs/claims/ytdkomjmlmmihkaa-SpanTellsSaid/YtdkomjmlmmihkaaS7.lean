/- SpanTells: the plain law. -/
import Derived.Test.YtdkomjmlmmihkaaS6
import Derived.Test.YtdkomjmlmmihkaaS36
open Go Go.Proofs Go.RowKit
namespace Go.Proofs.Ytdkomjmlmmihkaa.Sx.M5
set_option linter.unusedVariables false
set_option linter.unusedSimpArgs false
theorem notF' {b : Bool} (h : (!b) = false) : b = true := by cases b <;> simp_all
/-! words -/
theorem pow_ge1 (W : Nat) : (1 : Int) ≤ 2 ^ W := by rw [pow_cast]; have := Nat.two_pow_pos W; omega
theorem pow_le64I {W : Nat} (h : W ≤ 64) : (2 : Int) ^ W ≤ 18446744073709551616 := by rw [pow_cast]; have := pow_le64 h; omega
theorem pow_dvdI {W : Nat} (h : W ≤ 64) : (2 : Int) ^ W ∣ 18446744073709551616 := by
  have := pow_split W h
  refine ⟨((2 ^ (64 - W) : Nat) : Int), ?_⟩
  rw [pow_cast, ← Int.natCast_mul, this]
  rfl
theorem mask_int (w : Int) : mask_s w + 1 = 2 ^ cw w := by
  rw [mask_eq, pow_cast]; have := Nat.two_pow_pos (cw w); omega
theorem rmsk_int (w : Int) : rmsk_s w = mask_s w := by
  have h := rnot_is (rwid_eq w) (cw_range w).2 zero_is
  rw [notN_eq (Nat.two_pow_pos _), Nat.sub_zero] at h
  have hp := pow_le64 (cw_range w).2
  unfold rmsk_s
  rw [rnum_is h (by have := Nat.two_pow_pos (cw w); omega), mask_eq]
theorem cut_int (w : Int) {x : Int} (hx : 0 ≤ x ∧ x < 18446744073709551616) : cut_s w x = x % 2 ^ cw w := by
  have := cut_eq w x.toNat (by omega)
  rw [Int.toNat_of_nonneg hx.1] at this
  rw [this, pow_cast, Int.natCast_emod, Int.toNat_of_nonneg hx.1]
theorem mul64_eq (x y : Nat) (hx : x < 2 ^ 64) (hy : y < 2 ^ 64) : mul64_s (x : Int) (y : Int) = (((x * y / 2 ^ 64 : Nat) : Int), ((x * y % 2 ^ 64 : Nat) : Int)) := by
  unfold mul64_s
  have f32 : ∀ z : Int, z.fdiv (2 ^ 32) = z / 4294967296 := fun z => Int.fdiv_eq_ediv_of_nonneg _ (by decide)
  simp only [f32]
  have hm : ∀ z : Nat, z < 2 ^ 64 → Go.bits .and .u64 (z : Int) 4294967295 = ((z % 4294967296 : Nat) : Int) := fun z hz => by
    have := and_nat z (2 ^ 32 - 1) hz (by decide)
    rw [Nat.and_two_pow_sub_one_eq_mod] at this
    exact this
  obtain ⟨x1, x0, ex, hx1, hx0⟩ : ∃ x1 x0, x = x1 * 4294967296 + x0 ∧ x1 < 4294967296 ∧ x0 < 4294967296 := ⟨x / 4294967296, x % 4294967296, by omega, by omega, by omega⟩
  obtain ⟨y1, y0, ey, hy1, hy0⟩ : ∃ y1 y0, y = y1 * 4294967296 + y0 ∧ y1 < 4294967296 ∧ y0 < 4294967296 := ⟨y / 4294967296, y % 4294967296, by omega, by omega, by omega⟩
  have ax1 : (x : Int) / 4294967296 = (x1 : Int) := by omega
  have ay1 : (y : Int) / 4294967296 = (y1 : Int) := by omega
  have ax0 : Go.bits .and .u64 (x : Int) 4294967295 = (x0 : Int) := by rw [hm x hx]; omega
  have ay0 : Go.bits .and .u64 (y : Int) 4294967295 = (y0 : Int) := by rw [hm y hy]; omega
  rw [ax1, ay1, ax0, ay0]
  have bnd : ∀ a b : Nat, a < 4294967296 → b < 4294967296 → a * b ≤ 18446744065119617025 := fun a b ha hb => Nat.mul_le_mul (show a ≤ 4294967295 by omega) (show b ≤ 4294967295 by omega)
  have c00 := bnd x0 y0 hx0 hy0
  have c10 := bnd x1 y0 hx1 hy0
  have c01 := bnd x0 y1 hx0 hy1
  have c11 := bnd x1 y1 hx1 hy1
  have prod : x * y = (x1 * y1) * 18446744073709551616 + (x1 * y0 + x0 * y1) * 4294967296 + x0 * y0 := by
    rw [ex, ey, Nat.add_mul, Nat.mul_add, Nat.mul_add]
    have a1 : x1 * 4294967296 * (y1 * 4294967296) = x1 * y1 * 18446744073709551616 := by
      rw [Nat.mul_mul_mul_comm]
    have a2 : x1 * 4294967296 * y0 = x1 * y0 * 4294967296 := by rw [Nat.mul_right_comm]
    have a3 : x0 * (y1 * 4294967296) = x0 * y1 * 4294967296 := by rw [Nat.mul_assoc]
    rw [a1, a2, a3, Nat.add_mul]
    omega
  have w3 : IntKind.u64.wrap ((x : Int) * (y : Int)) = ((x * y % 2 ^ 64 : Nat) : Int) := by rw [← Int.natCast_mul, u64_nat]
  rw [w3]
  simp only [← Int.natCast_mul]
  generalize x0 * y0 = p00 at *
  generalize x1 * y0 = p10 at *
  generalize x0 * y1 = p01 at *
  generalize x1 * y1 = p11 at *
  rw [prod]
  have q1 : IntKind.u64.wrap (p00 : Int) = (p00 : Int) := u64_small (by omega) (by omega)
  have q2 : IntKind.u64.wrap (p10 : Int) = (p10 : Int) := u64_small (by omega) (by omega)
  have q3 : IntKind.u64.wrap (p01 : Int) = (p01 : Int) := u64_small (by omega) (by omega)
  have q4 : IntKind.u64.wrap (p11 : Int) = (p11 : Int) := u64_small (by omega) (by omega)
  rw [q1, q2, q3, q4]
  obtain ⟨t, ht⟩ : ∃ t : Nat, t = p10 + p00 / 4294967296 := ⟨_, rfl⟩
  have q5 : IntKind.u64.wrap ((p10 : Int) + (p00 : Int) / 4294967296) = (t : Int) := by rw [u64_small (by omega) (by omega)]; omega
  rw [q5, hm t (by omega)]
  obtain ⟨u, hu⟩ : ∃ u : Nat, u = t % 4294967296 + p01 := ⟨_, rfl⟩
  have q6 : IntKind.u64.wrap (((t % 4294967296 : Nat) : Int) + (p01 : Int)) = (u : Int) := by rw [u64_small (by omega) (by omega)]; omega
  rw [q6]
  congr 1
  rw [wrap_u64, wrap_u64]
  have e64 : (2 : Nat) ^ 64 = 18446744073709551616 := by decide
  rw [e64]
  omega
theorem mul64_int {x y : Int} (hx : 0 ≤ x ∧ x < 18446744073709551616) (hy : 0 ≤ y ∧ y < 18446744073709551616) : mul64_s x y = (x * y / 18446744073709551616, x * y % 18446744073709551616) := by
  have := mul64_eq x.toNat y.toNat (by omega) (by omega)
  rw [Int.toNat_of_nonneg hx.1, Int.toNat_of_nonneg hy.1] at this
  rw [this]
  have e : ((x.toNat * y.toNat : Nat) : Int) = x * y := by rw [Int.natCast_mul, Int.toNat_of_nonneg hx.1, Int.toNat_of_nonneg hy.1]
  rw [Int.natCast_ediv, Int.natCast_emod, e]
  rfl
/-! what a span has that is right -/
structure Fit (w m a b c e : Int) (W : Nat) : Prop where
  hw : w = W
  lo : 1 ≤ W
  hi : W ≤ 64
  hm : m + 1 = 2 ^ W
  ha : 0 ≤ a
  ab : a ≤ b
  hb : b ≤ m
  hc : 0 ≤ c
  ce : c ≤ e
  he : e ≤ m
theorem Fit.mask {w m a b c e : Int} {W : Nat} (F : Fit w m a b c e W) : mask_s w = m := by
  have h := mask_int w
  have := F.hm
  rw [F.hw, cw_of F.lo F.hi] at h
  rw [F.hw]
  omega
theorem Fit.cw {w m a b c e : Int} {W : Nat} (F : Fit w m a b c e W) : cw w = W := by rw [F.hw, cw_of F.lo F.hi]
theorem Fit.m64 {w m a b c e : Int} {W : Nat} (F : Fit w m a b c e W) : 1 ≤ m ∧ m < 18446744073709551616 := by
  have h := F.hm
  have h1 := pow_le64I F.hi
  have h2 : (2 : Int) ≤ 2 ^ W := by
    obtain ⟨k, hk⟩ : ∃ k, W = k + 1 := ⟨W - 1, by have := F.lo; omega⟩
    have := pow_ge1 k
    rw [hk, Int.pow_succ]; omega
  omega
def pick (r : Int × Int × Bool) (m : Int) : Int × Int := bif !r.2.2 then (0, m) else (r.1, r.2.1)
def trOf (t : Int) : Int × Int := bif (IntKind.u64.wrap t) == 2 then (0, 1) else (IntKind.u64.wrap t, IntKind.u64.wrap t)
theorem sadd_eq {w m : Int} {W : Nat} (hw : cw w = W) (hW : W ≤ 64) (hk : mask_s w = m) (hm : m + 1 = 2 ^ W) {x y : Int} (hx : 0 ≤ x ∧ x ≤ m) (hy : 0 ≤ y ∧ y ≤ m) : sadd_s w x y = if x + y ≤ m then (x + y, 0) else (x + y - (m + 1), 1) := by
  have hp := pow_le64I hW
  have hd := pow_dvdI hW
  have hc := cut_int w (x := (x + y) % 18446744073709551616) (by omega)
  rw [hw, Int.emod_emod_of_dvd _ hd, ← hm] at hc
  have hmod : ¬ x + y ≤ m → (x + y) % (m + 1) = x + y - (m + 1) := fun h => by
    rw [← Int.sub_emod_right, Int.emod_eq_of_lt (by omega) (by omega)]
  unfold sadd_s
  rw [hk, hc]
  by_cases h : x + y ≤ m
  · rw [if_pos h, decide_eq_false (by omega), decide_eq_false (by omega)]
    show ((x + y) % 18446744073709551616, (0 : Int)) = _
    rw [Int.emod_eq_of_lt (by omega) (by omega)]
  · rw [if_neg h, hmod h]
    by_cases h1 : (x + y) / 18446744073709551616 > 0
    · rw [decide_eq_true h1]; rfl
    · rw [decide_eq_false h1, decide_eq_true (by omega)]; rfl
theorem stak_eq {w m : Int} {W : Nat} (hw : cw w = W) (hW : W ≤ 64) (hm : m + 1 = 2 ^ W) {x y : Int} (hx : 0 ≤ x ∧ x ≤ m) (hy : 0 ≤ y ∧ y ≤ m) : stak_s w x y = if y > x then (x - y + (m + 1), 1) else (x - y, 0) := by
  have hp := pow_le64I hW
  have hd := pow_dvdI hW
  have hc := cut_int w (x := IntKind.u64.wrap (x - y)) (wrap_u64_rng _)
  rw [hw, wrap_u64, Int.emod_emod_of_dvd _ hd, ← hm] at hc
  unfold stak_s
  by_cases h : y > x
  · rw [decide_eq_true h, if_pos h, wrap_u64, hc]
    show ((x - y) % (m + 1), (1 : Int)) = _
    rw [← Int.add_emod_right, Int.emod_eq_of_lt (by omega) (by omega)]
  · rw [decide_eq_false h, if_neg h, wrap_u64]
    show ((x - y) % 18446744073709551616, (0 : Int)) = _
    rw [Int.emod_eq_of_lt (by omega) (by omega)]
theorem srig_in {w a b : Int} (h1 : a ≤ b) (h2 : b ≤ mask_s w) : srig_s w a b = (a, b) := by
  unfold srig_s
  rw [decide_eq_false (by omega), decide_eq_false (by omega)]; rfl
theorem stim_eq {w m : Int} (hk : mask_s w = m) (hm : m < 18446744073709551616) {x y : Int} (hx : 0 ≤ x ∧ x < 18446744073709551616) (hy : 0 ≤ y ∧ y < 18446744073709551616) : stim_s w x y = (x * y % 18446744073709551616, decide (x * y ≤ m)) := by
  have hxy : 0 ≤ x * y := Int.mul_nonneg hx.1 hy.1
  unfold stim_s
  rw [mul64_int hx hy, hk]
  generalize x * y = z at *
  by_cases h : z / 18446744073709551616 = 0
  · rw [show ((z / 18446744073709551616) == (0 : Int)) = true by rw [h]; rfl]
    show (_, decide (z % 18446744073709551616 ≤ m)) = _
    rw [show z % 18446744073709551616 = z by omega]
  · rw [show ((z / 18446744073709551616) == (0 : Int)) = false from beq_eq_false_iff_ne.2 h, decide_eq_false (show ¬ z ≤ m by omega)]
    rfl
theorem rfit_eq {m a b : Int} (hm : 0 ≤ m ∧ m < 18446744073709551616) (ha : 0 ≤ a) (hb : 0 ≤ b) : rfit_s m a b = decide (a * b ≤ m) := by
  unfold rfit_s
  by_cases h : a = 0
  · rw [h, Int.zero_mul, decide_eq_true hm.1]; rfl
  · have hq : 0 ≤ m / a := Int.ediv_nonneg hm.1 ha
    have hq2 : m / a ≤ m := Int.ediv_le_self _ hm.1
    rw [show (a == (0 : Int)) = false from beq_eq_false_iff_ne.2 h, Int.tdiv_eq_ediv_of_nonneg hm.1, u64_small hq (by omega)]
    show decide (b ≤ m / a) = _
    apply decide_eq_decide.2
    rw [Int.le_ediv_iff_mul_le (by omega), Int.mul_comm]
theorem rove_eq {m a b : Int} (hm : m < 18446744073709551616) (ha : 0 ≤ a ∧ a ≤ m) (hb : 0 ≤ b) : rove_s m a b = decide (a + b > m) := by
  unfold rove_s
  rw [decide_eq_false (show ¬ a > m by omega), u64_small (by omega) (by omega)]
  show decide (b > m - a) = _
  exact decide_eq_decide.2 (by omega)
theorem rsma_eq (a b : Int) : rsma_s a b = min a b := by
  unfold rsma_s
  by_cases h : a < b
  · rw [decide_eq_true h]; show a = _; omega
  · rw [decide_eq_false h]; show b = _; omega
theorem rgre_eq (a b : Int) : rgre_s a b = max a b := by
  unfold rgre_s
  by_cases h : a > b
  · rw [decide_eq_true h]; show a = _; omega
  · rw [decide_eq_false h]; show b = _; omega
end Go.Proofs.Ytdkomjmlmmihkaa.Sx.M5
