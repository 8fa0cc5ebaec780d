/- SpanTells: the plain law. -/
import Derived.Test.YtdfifogicefkjaaGreatDoorKx
import Derived.Test.YtdfifogicefkjaaGreatDoorKy
open Go Go.Proofs Go.RowKit
namespace Go.Proofs.YtdfifogicefkjaaGreatDoor.Sx.M5
set_option linter.unusedVariables false
set_option linter.unusedSimpArgs false
theorem notF' {b : Bool} (h : (!b) = false) : b = true := by cases b <;> simp_all
/-! words -/
theorem pow_ge1 (W : Nat) : (1 : Int) ≤ 2 ^ W := by rw [pow_cast]; have := Nat.two_pow_pos W; omega
theorem pow_le64I {W : Nat} (h : W ≤ 64) : (2 : Int) ^ W ≤ 18446744073709551616 := by rw [pow_cast]; have := pow_le64 h; omega
theorem pow_dvdI {W : Nat} (h : W ≤ 64) : (2 : Int) ^ W ∣ 18446744073709551616 := by
  have := pow_split W h
  refine ⟨((2 ^ (64 - W) : Nat) : Int), ?_⟩
  rw [pow_cast, ← Int.natCast_mul, this]
  rfl
theorem mask_int (w : Int) : mask_s w + 1 = 2 ^ cw w := by
  rw [mask_eq, pow_cast]; have := Nat.two_pow_pos (cw w); omega
theorem rmsk_int (w : Int) : rmsk_s w = mask_s w := by
  have h := rnot_is (rwid_eq w) (cw_range w).2 zero_is
  rw [notN_eq (Nat.two_pow_pos _), Nat.sub_zero] at h
  have hp := pow_le64 (cw_range w).2
  unfold rmsk_s
  rw [rnum_is h (by have := Nat.two_pow_pos (cw w); omega), mask_eq]
theorem cut_int (w : Int) {x : Int} (hx : 0 ≤ x ∧ x < 18446744073709551616) : cut_s w x = x % 2 ^ cw w := by
  have := cut_eq w x.toNat (by omega)
  rw [Int.toNat_of_nonneg hx.1] at this
  rw [this, pow_cast, Int.natCast_emod, Int.toNat_of_nonneg hx.1]
theorem mul64_eq (x y : Nat) (hx : x < 2 ^ 64) (hy : y < 2 ^ 64) : mul64_s (x : Int) (y : Int) = (((x * y / 2 ^ 64 : Nat) : Int), ((x * y % 2 ^ 64 : Nat) : Int)) := by
  unfold mul64_s
  have f32 : ∀ z : Int, z.fdiv (2 ^ 32) = z / 4294967296 := fun z => Int.fdiv_eq_ediv_of_nonneg _ (by decide)
  simp only [f32]
  have hm : ∀ z : Nat, z < 2 ^ 64 → Go.bits .and .u64 (z : Int) 4294967295 = ((z % 4294967296 : Nat) : Int) := fun z hz => by
    have := and_nat z (2 ^ 32 - 1) hz (by decide)
    rw [Nat.and_two_pow_sub_one_eq_mod] at this
    exact this
  obtain ⟨x1, x0, ex, hx1, hx0⟩ : ∃ x1 x0, x = x1 * 4294967296 + x0 ∧ x1 < 4294967296 ∧ x0 < 4294967296 := ⟨x / 4294967296, x % 4294967296, by omega, by omega, by omega⟩
  obtain ⟨y1, y0, ey, hy1, hy0⟩ : ∃ y1 y0, y = y1 * 4294967296 + y0 ∧ y1 < 4294967296 ∧ y0 < 4294967296 := ⟨y / 4294967296, y % 4294967296, by omega, by omega, by omega⟩
  have ax1 : (x : Int) / 4294967296 = (x1 : Int) := by omega
  have ay1 : (y : Int) / 4294967296 = (y1 : Int) := by omega
  have ax0 : Go.bits .and .u64 (x : Int) 4294967295 = (x0 : Int) := by rw [hm x hx]; omega
  have ay0 : Go.bits .and .u64 (y : Int) 4294967295 = (y0 : Int) := by rw [hm y hy]; omega
  rw [ax1, ay1, ax0, ay0]
  have bnd : ∀ a b : Nat, a < 4294967296 → b < 4294967296 → a * b ≤ 18446744065119617025 := fun a b ha hb => Nat.mul_le_mul (show a ≤ 4294967295 by omega) (show b ≤ 4294967295 by omega)
  have c00 := bnd x0 y0 hx0 hy0
  have c10 := bnd x1 y0 hx1 hy0
  have c01 := bnd x0 y1 hx0 hy1
  have c11 := bnd x1 y1 hx1 hy1
  have prod : x * y = (x1 * y1) * 18446744073709551616 + (x1 * y0 + x0 * y1) * 4294967296 + x0 * y0 := by
    rw [ex, ey, Nat.add_mul, Nat.mul_add, Nat.mul_add]
    have a1 : x1 * 4294967296 * (y1 * 4294967296) = x1 * y1 * 18446744073709551616 := by
      rw [Nat.mul_mul_mul_comm]
    have a2 : x1 * 4294967296 * y0 = x1 * y0 * 4294967296 := by rw [Nat.mul_right_comm]
    have a3 : x0 * (y1 * 4294967296) = x0 * y1 * 4294967296 := by rw [Nat.mul_assoc]
    rw [a1, a2, a3, Nat.add_mul]
    omega
  have w3 : IntKind.u64.wrap ((x : Int) * (y : Int)) = ((x * y % 2 ^ 64 : Nat) : Int) := by rw [← Int.natCast_mul, u64_nat]
  rw [w3]
  simp only [← Int.natCast_mul]
  generalize x0 * y0 = p00 at *
  generalize x1 * y0 = p10 at *
  generalize x0 * y1 = p01 at *
  generalize x1 * y1 = p11 at *
  rw [prod]
  have q1 : IntKind.u64.wrap (p00 : Int) = (p00 : Int) := u64_small (by omega) (by omega)
  have q2 : IntKind.u64.wrap (p10 : Int) = (p10 : Int) := u64_small (by omega) (by omega)
  have q3 : IntKind.u64.wrap (p01 : Int) = (p01 : Int) := u64_small (by omega) (by omega)
  have q4 : IntKind.u64.wrap (p11 : Int) = (p11 : Int) := u64_small (by omega) (by omega)
  rw [q1, q2, q3, q4]
  obtain ⟨t, ht⟩ : ∃ t : Nat, t = p10 + p00 / 4294967296 := ⟨_, rfl⟩
  have q5 : IntKind.u64.wrap ((p10 : Int) + (p00 : Int) / 4294967296) = (t : Int) := by rw [u64_small (by omega) (by omega)]; omega
  rw [q5, hm t (by omega)]
  obtain ⟨u, hu⟩ : ∃ u : Nat, u = t % 4294967296 + p01 := ⟨_, rfl⟩
  have q6 : IntKind.u64.wrap (((t % 4294967296 : Nat) : Int) + (p01 : Int)) = (u : Int) := by rw [u64_small (by omega) (by omega)]; omega
  rw [q6]
  congr 1
  rw [wrap_u64, wrap_u64]
  have e64 : (2 : Nat) ^ 64 = 18446744073709551616 := by decide
  rw [e64]
  omega
theorem mul64_int {x y : Int} (hx : 0 ≤ x ∧ x < 18446744073709551616) (hy : 0 ≤ y ∧ y < 18446744073709551616) : mul64_s x y = (x * y / 18446744073709551616, x * y % 18446744073709551616) := by
  have := mul64_eq x.toNat y.toNat (by omega) (by omega)
  rw [Int.toNat_of_nonneg hx.1, Int.toNat_of_nonneg hy.1] at this
  rw [this]
  have e : ((x.toNat * y.toNat : Nat) : Int) = x * y := by rw [Int.natCast_mul, Int.toNat_of_nonneg hx.1, Int.toNat_of_nonneg hy.1]
  rw [Int.natCast_ediv, Int.natCast_emod, e]
  rfl
/-! what a span has that is right -/
structure Fit (w m a b c e : Int) (W : Nat) : Prop where
  hw : w = W
  lo : 1 ≤ W
  hi : W ≤ 64
  hm : m + 1 = 2 ^ W
  ha : 0 ≤ a
  ab : a ≤ b
  hb : b ≤ m
  hc : 0 ≤ c
  ce : c ≤ e
  he : e ≤ m
theorem Fit.mask {w m a b c e : Int} {W : Nat} (F : Fit w m a b c e W) : mask_s w = m := by
  have h := mask_int w
  have := F.hm
  rw [F.hw, cw_of F.lo F.hi] at h
  rw [F.hw]
  omega
theorem Fit.cw {w m a b c e : Int} {W : Nat} (F : Fit w m a b c e W) : cw w = W := by rw [F.hw, cw_of F.lo F.hi]
theorem Fit.m64 {w m a b c e : Int} {W : Nat} (F : Fit w m a b c e W) : 1 ≤ m ∧ m < 18446744073709551616 := by
  have h := F.hm
  have h1 := pow_le64I F.hi
  have h2 : (2 : Int) ≤ 2 ^ W := by
    obtain ⟨k, hk⟩ : ∃ k, W = k + 1 := ⟨W - 1, by have := F.lo; omega⟩
    have := pow_ge1 k
    rw [hk, Int.pow_succ]; omega
  omega
def pick (r : Int × Int × Bool) (m : Int) : Int × Int := bif !r.2.2 then (0, m) else (r.1, r.2.1)
def trOf (t : Int) : Int × Int := bif (IntKind.u64.wrap t) == 2 then (0, 1) else (IntKind.u64.wrap t, IntKind.u64.wrap t)
theorem sadd_eq {w m : Int} {W : Nat} (hw : cw w = W) (hW : W ≤ 64) (hk : mask_s w = m) (hm : m + 1 = 2 ^ W) {x y : Int} (hx : 0 ≤ x ∧ x ≤ m) (hy : 0 ≤ y ∧ y ≤ m) : sadd_s w x y = if x + y ≤ m then (x + y, 0) else (x + y - (m + 1), 1) := by
  have hp := pow_le64I hW
  have hd := pow_dvdI hW
  have hc := cut_int w (x := (x + y) % 18446744073709551616) (by omega)
  rw [hw, Int.emod_emod_of_dvd _ hd, ← hm] at hc
  have hmod : ¬ x + y ≤ m → (x + y) % (m + 1) = x + y - (m + 1) := fun h => by
    rw [← Int.sub_emod_right, Int.emod_eq_of_lt (by omega) (by omega)]
  unfold sadd_s
  rw [hk, hc]
  by_cases h : x + y ≤ m
  · rw [if_pos h, decide_eq_false (by omega), decide_eq_false (by omega)]
    show ((x + y) % 18446744073709551616, (0 : Int)) = _
    rw [Int.emod_eq_of_lt (by omega) (by omega)]
  · rw [if_neg h, hmod h]
    by_cases h1 : (x + y) / 18446744073709551616 > 0
    · rw [decide_eq_true h1]; rfl
    · rw [decide_eq_false h1, decide_eq_true (by omega)]; rfl
theorem stak_eq {w m : Int} {W : Nat} (hw : cw w = W) (hW : W ≤ 64) (hm : m + 1 = 2 ^ W) {x y : Int} (hx : 0 ≤ x ∧ x ≤ m) (hy : 0 ≤ y ∧ y ≤ m) : stak_s w x y = if y > x then (x - y + (m + 1), 1) else (x - y, 0) := by
  have hp := pow_le64I hW
  have hd := pow_dvdI hW
  have hc := cut_int w (x := IntKind.u64.wrap (x - y)) (wrap_u64_rng _)
  rw [hw, wrap_u64, Int.emod_emod_of_dvd _ hd, ← hm] at hc
  unfold stak_s
  by_cases h : y > x
  · rw [decide_eq_true h, if_pos h, wrap_u64, hc]
    show ((x - y) % (m + 1), (1 : Int)) = _
    rw [← Int.add_emod_right, Int.emod_eq_of_lt (by omega) (by omega)]
  · rw [decide_eq_false h, if_neg h, wrap_u64]
    show ((x - y) % 18446744073709551616, (0 : Int)) = _
    rw [Int.emod_eq_of_lt (by omega) (by omega)]
theorem srig_in {w a b : Int} (h1 : a ≤ b) (h2 : b ≤ mask_s w) : srig_s w a b = (a, b) := by
  unfold srig_s
  rw [decide_eq_false (by omega), decide_eq_false (by omega)]; rfl
theorem stim_eq {w m : Int} (hk : mask_s w = m) (hm : m < 18446744073709551616) {x y : Int} (hx : 0 ≤ x ∧ x < 18446744073709551616) (hy : 0 ≤ y ∧ y < 18446744073709551616) : stim_s w x y = (x * y % 18446744073709551616, decide (x * y ≤ m)) := by
  have hxy : 0 ≤ x * y := Int.mul_nonneg hx.1 hy.1
  unfold stim_s
  rw [mul64_int hx hy, hk]
  generalize x * y = z at *
  by_cases h : z / 18446744073709551616 = 0
  · rw [show ((z / 18446744073709551616) == (0 : Int)) = true by rw [h]; rfl]
    show (_, decide (z % 18446744073709551616 ≤ m)) = _
    rw [show z % 18446744073709551616 = z by omega]
  · rw [show ((z / 18446744073709551616) == (0 : Int)) = false from beq_eq_false_iff_ne.2 h, decide_eq_false (show ¬ z ≤ m by omega)]
    rfl
theorem rfit_eq {m a b : Int} (hm : 0 ≤ m ∧ m < 18446744073709551616) (ha : 0 ≤ a) (hb : 0 ≤ b) : rfit_s m a b = decide (a * b ≤ m) := by
  unfold rfit_s
  by_cases h : a = 0
  · rw [h, Int.zero_mul, decide_eq_true hm.1]; rfl
  · have hq : 0 ≤ m / a := Int.ediv_nonneg hm.1 ha
    have hq2 : m / a ≤ m := Int.ediv_le_self _ hm.1
    rw [show (a == (0 : Int)) = false from beq_eq_false_iff_ne.2 h, Int.tdiv_eq_ediv_of_nonneg hm.1, u64_small hq (by omega)]
    show decide (b ≤ m / a) = _
    apply decide_eq_decide.2
    rw [Int.le_ediv_iff_mul_le (by omega), Int.mul_comm]
theorem rove_eq {m a b : Int} (hm : m < 18446744073709551616) (ha : 0 ≤ a ∧ a ≤ m) (hb : 0 ≤ b) : rove_s m a b = decide (a + b > m) := by
  unfold rove_s
  rw [decide_eq_false (show ¬ a > m by omega), u64_small (by omega) (by omega)]
  show decide (b > m - a) = _
  exact decide_eq_decide.2 (by omega)
theorem rsma_eq (a b : Int) : rsma_s a b = min a b := by
  unfold rsma_s
  by_cases h : a < b
  · rw [decide_eq_true h]; show a = _; omega
  · rw [decide_eq_false h]; show b = _; omega
theorem rgre_eq (a b : Int) : rgre_s a b = max a b := by
  unfold rgre_s
  by_cases h : a > b
  · rw [decide_eq_true h]; show a = _; omega
  · rw [decide_eq_false h]; show b = _; omega
end Go.Proofs.YtdfifogicefkjaaGreatDoor.Sx.M5
/- SpanTells: what both tables say. -/
open Go Go.Proofs Go.RowKit
namespace Go.Proofs.YtdfifogicefkjaaGreatDoor.Sx.M5
set_option linter.unusedVariables false
set_option linter.unusedSimpArgs false
theorem two_mul_pow (z : Int) (k : Nat) : 2 * z * 2 ^ k = z * 2 ^ (k + 1) := by
  rw [Int.pow_succ, Int.mul_comm (2 ^ k) 2, ← Int.mul_assoc, Int.mul_comm 2 z]
theorem rtwo_l0_eq {y : Int} : ∀ (m k : Nat) (z : Int), 0 ≤ z → z * 2 ^ k < 18446744073709551616 → k < m → k < 64 → rtwo_l0 y m z k = z * 2 ^ k := by
  intro m
  induction m with
  | zero => intro k z _ _ hm; exact absurd hm (Nat.not_lt_zero _)
  | succ m ih =>
    intro k z h0 h1 hm hk
    rw [rtwo_l0]
    cases k with
    | zero => rw [decide_eq_false (by omega)]; show z = _; rw [Int.pow_zero, Int.mul_one]
    | succ k =>
      rw [decide_eq_true (by omega), ← two_mul_pow] at *
      have hp := pow_ge1 k
      have h2 : 2 * z * 1 ≤ 2 * z * 2 ^ k := Int.mul_le_mul_of_nonneg_left hp (by omega)
      rw [u64_small (by omega) (by omega), show IntKind.u64.wrap (((k + 1 : Nat) : Int) - 1) = (k : Int) by rw [wrap_u64]; omega]
      exact ih k (2 * z) (by omega) h1 (by omega) (by omega)
theorem rtwo_eq {k : Nat} (hk : k < 64) : rtwo_s k = 2 ^ k := by
  unfold rtwo_s
  have hb : (2 : Int) ^ k ≤ 2 ^ 63 := by
    rw [pow_cast, pow_cast]
    exact Int.ofNat_le.2 (Nat.pow_le_pow_right (by decide) (by omega))
  rw [rtwo_l0_eq _ k 1 (by decide) (by omega) (by omega) hk, Int.one_mul]
theorem rdow_l0_eq {w x y : Int} : ∀ (m k : Nat) (z : Int), 0 ≤ z → z < 18446744073709551616 → k < m → k < 64 → rdow_l0 w x y m z k = z / 2 ^ k := by
  intro m
  induction m with
  | zero => intro k z _ _ hm; exact absurd hm (Nat.not_lt_zero _)
  | succ m ih =>
    intro k z h0 h1 hm hk
    rw [rdow_l0]
    cases k with
    | zero => rw [decide_eq_false (by omega)]; show z = _; rw [Int.pow_zero, Int.ediv_one]
    | succ k =>
      rw [decide_eq_true (by omega), Int.tdiv_eq_ediv_of_nonneg h0, u64_small (by omega) (by omega), show IntKind.u64.wrap (((k + 1 : Nat) : Int) - 1) = (k : Int) by rw [wrap_u64]; omega]
      simp only [cond_true]
      rw [ih k (z / 2) (by omega) (by omega) (by omega) (by omega), Int.pow_succ, Int.mul_comm (2 ^ k) 2, Int.ediv_ediv_of_nonneg (by decide)]
/-- What is moved down, by both sides. -/
theorem down_same {w : Int} {W : Nat} (hw : w = W) (h1 : 1 ≤ W) (h2 : W ≤ 64) {x y : Int} (hx : 0 ≤ x ∧ x < 2 ^ W) (hy : 0 ≤ y ∧ y < 2 ^ W) : sdow_s w x y = rdow_s w x y := by
  have hp := pow_le64I h2
  have e := apply1_eq 17 w x.toNat y.toNat (by omega) (by omega)
  rw [Int.toNat_of_nonneg hx.1, Int.toNat_of_nonneg hy.1] at e
  have hc : cw w = W := by rw [hw, cw_of h1 h2]
  have hx64 : x < 18446744073709551616 := by omega
  rw [pow_cast] at hx hy
  rw [hc, Nat.mod_eq_of_lt (by omega), Nat.mod_eq_of_lt (by omega)] at e
  unfold sdow_s rdow_s
  rw [e, hw, u64_small (n := (W : Int)) (by omega) (by omega)]
  simp only [applyN, Int.reduceEq, if_false, if_true]
  obtain ⟨k, rfl⟩ : ∃ k : Nat, y = k := ⟨y.toNat, by omega⟩
  rw [Int.toNat_natCast]
  by_cases c : W ≤ k
  · rw [if_pos c, decide_eq_true (by omega)]; rfl
  · rw [if_neg c, decide_eq_false (by omega)]
    simp only [cond_false]
    rw [rdow_l0_eq _ k x hx.1 hx64 (by omega) (by omega), Int.natCast_ediv, Int.toNat_of_nonneg hx.1, pow_cast]
def chk (b v : Nat) : Bool := Nat.blt b (2 ^ v) && (bif Nat.beq b 0 then Nat.beq v 0 else Nat.ble 1 v && Nat.ble (2 ^ (v - 1)) b)
def chkAll : Nat → List Nat → Bool
  | _, [] => true
  | b, v :: l => chk b v && chkAll (b + 1) l
theorem chkAll_t : ∀ (l : List Nat) (b : Nat), chkAll b l = true → ∀ j, j < l.length → chk (b + j) (l.getD j 0) = true
  | [], _, _, j, hj => absurd hj (Nat.not_lt_zero _)
  | v :: l, b, h, j, hj => by
    obtain ⟨h1, h2⟩ := Bool.and_eq_true_iff.1 h
    cases j with
    | zero => exact h1
    | succ j =>
      have := chkAll_t l (b + 1) h2 j (Nat.lt_of_succ_lt_succ hj)
      rwa [show b + 1 + j = b + (j + 1) by omega] at this
def len8n : List Nat := [0, 1, 2, 2, 3, 3, 3, 3, 4, 4, 4, 4, 4, 4, 4, 4, 5, 5, 5, 5, 5, 5, 5, 5, 5, 5, 5, 5, 5, 5, 5, 5, 6, 6, 6, 6, 6, 6, 6, 6, 6, 6, 6, 6, 6, 6, 6, 6, 6, 6, 6, 6, 6, 6, 6, 6, 6, 6, 6, 6, 6, 6, 6, 6, 7, 7, 7, 7, 7, 7, 7, 7, 7, 7, 7, 7, 7, 7, 7, 7, 7, 7, 7, 7, 7, 7, 7, 7, 7, 7, 7, 7, 7, 7, 7, 7, 7, 7, 7, 7, 7, 7, 7, 7, 7, 7, 7, 7, 7, 7, 7, 7, 7, 7, 7, 7, 7, 7, 7, 7, 7, 7, 7, 7, 7, 7, 7, 7, 8, 8, 8, 8, 8, 8, 8, 8, 8, 8, 8, 8, 8, 8, 8, 8, 8, 8, 8, 8, 8, 8, 8, 8, 8, 8, 8, 8, 8, 8, 8, 8, 8, 8, 8, 8, 8, 8, 8, 8, 8, 8, 8, 8, 8, 8, 8, 8, 8, 8, 8, 8, 8, 8, 8, 8, 8, 8, 8, 8, 8, 8, 8, 8, 8, 8, 8, 8, 8, 8, 8, 8, 8, 8, 8, 8, 8, 8, 8, 8, 8, 8, 8, 8, 8, 8, 8, 8, 8, 8, 8, 8, 8, 8, 8, 8, 8, 8, 8, 8, 8, 8, 8, 8, 8, 8, 8, 8, 8, 8, 8, 8, 8, 8, 8, 8, 8, 8, 8, 8, 8, 8, 8, 8, 8, 8, 8, 8]
theorem len8n_eq : len8b.data.toList.map UInt8.toNat = len8n := by kernel_rfl
theorem len8n_ok : chkAll 0 len8n = true := by kernel_rfl
theorem byte_len (b : _root_.Fin 256) : ∃ v : Nat, sByte len8b (b.val : Int) = v ∧ (b.val : Int) < 2 ^ v ∧ (b.val ≠ 0 → 1 ≤ v ∧ 2 ^ (v - 1) ≤ (b.val : Int)) ∧ (b.val = 0 → v = 0) := by
  have hl : len8n.length = 256 := by kernel_rfl
  have h := chkAll_t len8n 0 len8n_ok b.val (by rw [hl]; exact b.isLt)
  have hv : (len8b.data.toList.getD b.val 0).toNat = len8n.getD b.val 0 := by
    rw [← len8n_eq, List.getD_eq_getElem?_getD, List.getD_eq_getElem?_getD, List.getElem?_map]
    cases len8b.data.toList[b.val]? <;> rfl
  rw [Nat.zero_add] at h
  unfold chk at h
  obtain ⟨h1, h2⟩ := Bool.and_eq_true_iff.1 h
  refine ⟨len8n.getD b.val 0, ?_, ?_, fun hb => ?_, fun hb => ?_⟩
  · unfold sByte
    rw [Int.toNat_natCast, hv]
  · rw [pow_cast]; exact Int.ofNat_lt.2 (Nat.blt_eq ▸ h1)
  · rw [show Nat.beq b.val 0 = false by cases hq : Nat.beq b.val 0 with
      | false => rfl
      | true => exact absurd (Nat.eq_of_beq_eq_true hq) hb] at h2
    obtain ⟨h3, h4⟩ := Bool.and_eq_true_iff.1 h2
    refine ⟨Nat.le_of_ble_eq_true h3, ?_⟩
    rw [pow_cast]; exact Int.ofNat_le.2 (Nat.le_of_ble_eq_true h4)
  · rw [hb] at h2
    rw [hb]
    exact Nat.eq_of_beq_eq_true h2
/-- How many bits a number has. -/
def LenOf (x : Int) (L : Nat) : Prop := L ≤ 64 ∧ x < 2 ^ L ∧ (L = 0 ∨ 2 ^ (L - 1) ≤ x)
theorem wrap_two {s v : Int} (h0 : 0 ≤ s) (h1 : s ≤ 56) (h2 : 0 ≤ v) (h3 : v ≤ 8) : IntKind.i64.wrap (s + IntKind.i64.wrap v) = s + v := by
  rw [IntKind.wrap_i64, IntKind.wrap_i64]; omega
theorem len_leaf {x : Int} (hx : 0 ≤ x) (s : Nat) (hs : s ≤ 56) (h0 : s = 0 ∨ 1 ≤ x / 2 ^ s) (h1 : x / 2 ^ s < 256) : ∃ L : Nat, IntKind.i64.wrap ((s : Int) + IntKind.i64.wrap (sByte len8b (IntKind.u8.wrap (x / 2 ^ s)))) = L ∧ LenOf x L := by
  have hp := pow_ge1 s
  have hq : 0 ≤ x / 2 ^ s := Int.ediv_nonneg hx (by omega)
  obtain ⟨b, hb⟩ : ∃ b : Nat, x / 2 ^ s = b := ⟨(x / 2 ^ s).toNat, by omega⟩
  rw [hb] at h0 h1 ⊢
  obtain ⟨v, hv, B⟩ := byte_len ⟨b, by omega⟩
  simp only at B hv
  have hr := sByte_len8 (b : Int)
  rw [wrap_u8, show (b : Int) % 256 = b by omega]
  rw [hv] at hr ⊢
  have hdm := Int.mul_ediv_add_emod x (2 ^ s)
  rw [hb] at hdm
  have hm0 := Int.emod_nonneg x (show (2 : Int) ^ s ≠ 0 by omega)
  have hm1 := Int.emod_lt_of_pos x (show (0 : Int) < 2 ^ s by omega)
  refine ⟨s + v, wrap_two (by omega) (by omega) (by omega) (by omega), by omega, ?_, ?_⟩
  · rw [Int.pow_add]
    have : 2 ^ s * ((b : Int) + 1) ≤ 2 ^ s * 2 ^ v := Int.mul_le_mul_of_nonneg_left (by have := B.1; omega) (by omega)
    rw [Int.mul_add] at this
    omega
  · by_cases hz : b = 0
    · left
      have := B.2.2 hz
      rcases h0 with h0 | h0
      · omega
      · omega
    · right
      obtain ⟨B1, B2⟩ := B.2.1 hz
      rw [show s + v - 1 = s + (v - 1) by omega, Int.pow_add]
      have : 2 ^ s * 2 ^ (v - 1) ≤ 2 ^ s * (b : Int) := Int.mul_le_mul_of_nonneg_left B2 (by omega)
      omega
theorem len64_is {x : Int} (hx : 0 ≤ x ∧ x < 18446744073709551616) : ∃ L : Nat, len64_s x = L ∧ LenOf x L := by
  have f : ∀ (z : Int) (k : Nat), z.fdiv (2 ^ k) = z / 2 ^ k := fun z k => Int.fdiv_eq_ediv_of_nonneg _ (by have := pow_ge1 k; omega)
  have d : ∀ (z : Int) (j k : Nat), z / 2 ^ j / 2 ^ k = z / 2 ^ (j + k) := fun z j k => by
    rw [Int.pow_add, Int.ediv_ediv_of_nonneg (by have := pow_ge1 j; omega)]
  unfold len64_s
  simp only [f, d, Nat.reduceAdd]
  have n0 : x / 2 ^ 0 = x := by rw [Int.pow_zero, Int.ediv_one]
  have L := fun s hs h0 h1 => len_leaf hx.1 s hs h0 h1
  have e32 : x / 2 ^ 32 = x / 4294967296 := rfl
  have e16 : x / 2 ^ 16 = x / 65536 := rfl
  have e8 : x / 2 ^ 8 = x / 256 := rfl
  have e48 : x / 2 ^ 48 = x / 281474976710656 := rfl
  have e40 : x / 2 ^ 40 = x / 1099511627776 := rfl
  have e56 : x / 2 ^ 56 = x / 72057594037927936 := rfl
  have e24 : x / 2 ^ 24 = x / 16777216 := rfl
  by_cases c1 : x ≥ 4294967296
  · rw [decide_eq_true c1]
    simp only [cond_true]
    by_cases c2 : x / 2 ^ 32 ≥ 65536
    · rw [decide_eq_true c2]
      simp only [cond_true]
      by_cases c3 : x / 2 ^ 48 ≥ 256
      · rw [decide_eq_true c3]; exact L 56 (by omega) (.inr (by omega)) (by omega)
      · rw [decide_eq_false c3]; exact L 48 (by omega) (.inr (by omega)) (by omega)
    · rw [decide_eq_false c2]
      simp only [cond_false]
      by_cases c3 : x / 2 ^ 32 ≥ 256
      · rw [decide_eq_true c3]; exact L 40 (by omega) (.inr (by omega)) (by omega)
      · rw [decide_eq_false c3]; exact L 32 (by omega) (.inr (by omega)) (by omega)
  · rw [decide_eq_false c1]
    simp only [cond_false]
    by_cases c2 : x ≥ 65536
    · rw [decide_eq_true c2]
      simp only [cond_true]
      by_cases c3 : x / 2 ^ 16 ≥ 256
      · rw [decide_eq_true c3]; exact L 24 (by omega) (.inr (by omega)) (by omega)
      · rw [decide_eq_false c3]; exact L 16 (by omega) (.inr (by omega)) (by omega)
    · rw [decide_eq_false c2]
      simp only [cond_false]
      by_cases c3 : x ≥ 256
      · rw [decide_eq_true c3]; exact L 8 (by omega) (.inr (by omega)) (by omega)
      · rw [decide_eq_false c3]
        have := L 0 (by omega) (.inl rfl) (by rw [n0]; omega)
        rw [n0] at this
        exact this
theorem rone_eq {x y : Int} {L : Nat} (hx : 0 ≤ x ∧ x < 18446744073709551616) (hy : 0 ≤ y ∧ y < 18446744073709551616) (hL : LenOf (max x y) L) : rone_s x y = 2 ^ L - 1 := by
  obtain ⟨l1, l2, l3⟩ := hL
  have mono : ∀ j k : Nat, j ≤ k → (2 : Int) ^ j ≤ 2 ^ k := fun j k h => by
    rw [pow_cast, pow_cast]; exact Int.ofNat_le.2 (Nat.pow_le_pow_right (by decide) h)
  have key : ∀ (m k : Nat), k ≤ L → (max x y - (2 ^ k - 1)).toNat < m → rone_l0 x y m (2 ^ k - 1) = 2 ^ L - 1 := by
    intro m
    induction m with
    | zero => intro k _ hm; exact absurd hm (Nat.not_lt_zero _)
    | succ m ih =>
      intro k hk hm
      rw [rone_l0]
      have hp := pow_ge1 k
      have next : max x y > 2 ^ k - 1 → rone_l0 x y m (IntKind.u64.wrap (IntKind.u64.wrap (2 * (2 ^ k - 1)) + 1)) = 2 ^ L - 1 := fun h => by
        have hkL : k < L := by
          rcases Nat.lt_or_ge k L with c | c
          · exact c
          · have := mono L k c; omega
        have hb := mono (k + 1) 64 (by omega)
        have e : (2 : Int) ^ (k + 1) = 2 * 2 ^ k := by rw [Int.pow_succ]; omega
        have e64 : (2 : Int) ^ 64 = 18446744073709551616 := rfl
        rw [show IntKind.u64.wrap (IntKind.u64.wrap (2 * (2 ^ k - 1)) + 1) = (2 : Int) ^ (k + 1) - 1 by rw [wrap_u64, wrap_u64]; omega]
        exact ih (k + 1) (by omega) (by omega)
      by_cases c1 : 2 ^ k - 1 < x
      · rw [decide_eq_true c1]; exact next (by omega)
      · rw [decide_eq_false c1]
        by_cases c2 : 2 ^ k - 1 < y
        · rw [decide_eq_true c2]; exact next (by omega)
        · rw [decide_eq_false c2]
          show (2 : Int) ^ k - 1 = _
          have : k = L := by
            rcases Nat.lt_or_ge k L with c | c
            · have := mono k (L - 1) (by omega)
              rcases l3 with l3 | l3 <;> omega
            · omega
          rw [this]
  unfold rone_s
  exact key _ 0 (Nat.zero_le _) (by rw [Int.pow_zero]; omega)
theorem full_same {x y : Int} (hx : 0 ≤ x ∧ x < 18446744073709551616) (hy : 0 ≤ y ∧ y < 18446744073709551616) : sful_s x y = rone_s x y := by
  obtain ⟨L, h1, h2⟩ := len64_is (x := max x y) (by omega)
  rw [rone_eq hx hy h2]
  unfold sful_s
  rw [h1]
  by_cases c : L = 0
  · subst c; rfl
  · rw [show ((L : Int) == 0) = false from beq_eq_false_iff_ne.2 (by omega), show (64 - (L : Int)).toNat = 64 - L by omega]
    have := shr_nat (2 ^ 64 - 1) (64 - L) (by omega)
    rw [mask_div _ h2.1] at this
    refine this.trans ?_
    rw [pow_cast]
    have := Nat.two_pow_pos L
    omega
end Go.Proofs.YtdfifogicefkjaaGreatDoor.Sx.M5
/- SpanTells: both tables are the same. -/
open Go Go.Proofs Go.RowKit
namespace Go.Proofs.YtdfifogicefkjaaGreatDoor.Sx.M5
set_option linter.unusedVariables false
set_option linter.unusedSimpArgs false
section
variable {w m a b c e : Int} {W : Nat}
theorem t8 (F : Fit w m a b c e W) : sbo1_s w a b c e w = pick (rsum_s 8 m a b c e) m := by
  obtain ⟨hw, lo, hi, hm, ha, ab, hb, hc, ce, he⟩ := F
  have F : Fit w m a b c e W := ⟨hw, lo, hi, hm, ha, ab, hb, hc, ce, he⟩
  have h64 := F.m64
  have e1 := sadd_eq F.cw hi F.mask hm (x := a) (y := c) (by omega) (by omega)
  have e2 := sadd_eq F.cw hi F.mask hm (x := b) (y := e) (by omega) (by omega)
  unfold sbo1_s stb1_s stb2_s whol_s pick rsum_s
  simp only [Int.reduceBEq, cond_true, cond_false]
  rw [e1, e2, F.mask, rove_eq h64.2 (by omega) (by omega), rove_eq h64.2 (by omega) (by omega)]
  by_cases h1 : b + e ≤ m
  · rw [if_pos h1, if_pos (show a + c ≤ m by omega), decide_eq_false (show ¬ b + e > m by omega)]
    have := srig_in (w := w) (a := a + c) (b := b + e) (by omega) (by rw [F.mask]; exact h1)
    simp only [bne_self_eq_false, cond_false, Bool.not_false, cond_true, Bool.not_true]
    rw [this, u64_small (by omega) (by omega), u64_small (by omega) (by omega)]
  · rw [if_neg h1, decide_eq_true (show b + e > m by omega)]
    by_cases h2 : a + c ≤ m
    · rw [if_pos h2, decide_eq_false (show ¬ a + c > m by omega)]
      rfl
    · rw [if_neg h2, decide_eq_true (show a + c > m by omega)]
      have := srig_in (w := w) (a := a + c - (m + 1)) (b := b + e - (m + 1)) (by omega) (by rw [F.mask]; omega)
      simp only [bne_self_eq_false, cond_false, Bool.not_false, cond_true, Bool.not_true]
      rw [this, u64_small (n := m - c) (by omega) (by omega), u64_small (n := m - e) (by omega) (by omega)]
      refine Prod.ext ?_ ?_
      · show a + c - (m + 1) = IntKind.u64.wrap (IntKind.u64.wrap (a - (m - c)) - 1)
        rw [u64_small (n := a - (m - c)) (by omega) (by omega), u64_small (by omega) (by omega)]; omega
      · show b + e - (m + 1) = IntKind.u64.wrap (IntKind.u64.wrap (b - (m - e)) - 1)
        rw [u64_small (n := b - (m - e)) (by omega) (by omega), u64_small (by omega) (by omega)]; omega
theorem t9 (F : Fit w m a b c e W) : sbo2_s w a b c e w = pick (rsum_s 9 m a b c e) m := by
  obtain ⟨hw, lo, hi, hm, ha, ab, hb, hc, ce, he⟩ := F
  have F : Fit w m a b c e W := ⟨hw, lo, hi, hm, ha, ab, hb, hc, ce, he⟩
  have h64 := F.m64
  have e1 := stak_eq F.cw hi hm (x := a) (y := e) (by omega) (by omega)
  have e2 := stak_eq F.cw hi hm (x := b) (y := c) (by omega) (by omega)
  unfold sbo2_s stb3_s stb4_s whol_s pick rsum_s
  simp only [Int.reduceBEq, cond_true, cond_false]
  rw [e1, e2, F.mask]
  by_cases h1 : e ≤ a
  · rw [if_neg (show ¬ e > a by omega), if_neg (show ¬ c > b by omega), decide_eq_true h1]
    have := srig_in (w := w) (a := a - e) (b := b - c) (by omega) (by rw [F.mask]; omega)
    simp only [bne_self_eq_false, cond_false, Bool.not_false, cond_true, Bool.not_true]
    rw [this, u64_small (by omega) (by omega), u64_small (by omega) (by omega)]
  · rw [if_pos (show e > a by omega), decide_eq_false h1]
    by_cases h2 : b < c
    · rw [if_pos (show c > b by omega), decide_eq_true h2]
      have := srig_in (w := w) (a := a - e + (m + 1)) (b := b - c + (m + 1)) (by omega) (by rw [F.mask]; omega)
      simp only [bne_self_eq_false, cond_false, Bool.not_false, cond_true, Bool.not_true]
      rw [this, u64_small (n := e - a) (by omega) (by omega), u64_small (n := c - b) (by omega) (by omega)]
      refine Prod.ext ?_ ?_
      · show a - e + (m + 1) = IntKind.u64.wrap (IntKind.u64.wrap (m - (e - a)) + 1)
        rw [u64_small (n := m - (e - a)) (by omega) (by omega), u64_small (by omega) (by omega)]; omega
      · show b - c + (m + 1) = IntKind.u64.wrap (IntKind.u64.wrap (m - (c - b)) + 1)
        rw [u64_small (n := m - (c - b)) (by omega) (by omega), u64_small (by omega) (by omega)]; omega
    · rw [if_neg (show ¬ c > b by omega), decide_eq_false h2]
      rfl
theorem t10 (F : Fit w m a b c e W) : (bif (stim_s w b e).2 then (IntKind.u64.wrap (a * c), (stim_s w b e).1) else ((whol_s w).1, (whol_s w).2)) = pick (rsum_s 10 m a b c e) m := by
  obtain ⟨hw, lo, hi, hm, ha, ab, hb, hc, ce, he⟩ := F
  have F : Fit w m a b c e W := ⟨hw, lo, hi, hm, ha, ab, hb, hc, ce, he⟩
  have h64 := F.m64
  rw [stim_eq F.mask h64.2 (by omega) (by omega)]
  unfold whol_s pick rsum_s
  simp only [Int.reduceBEq, cond_true, cond_false]
  rw [F.mask, rfit_eq (by omega) (by omega) (by omega), wrap_u64 (b * e)]
  cases decide (b * e ≤ m) <;> rfl
theorem t11 (F : Fit w m a b c e W) : sdiv_s 11 w a b c e = pick (rpar_s 11 a b c e) m := by
  unfold sdiv_s rpar_s whol_s pick
  rw [F.mask]
  simp only [Int.reduceBEq, cond_true, cond_false, bne]
  cases (c == (0 : Int)) <;> rfl
theorem t12 (F : Fit w m a b c e W) : sdiv_s 12 w a b c e = pick (rpar_s 12 a b c e) m := by
  unfold sdiv_s rpar_s whol_s pick
  simp only [Int.reduceBEq, cond_true, cond_false, rsma_eq]
  cases decide (b < c) <;> cases (c != (0 : Int)) <;> rfl
theorem t13 : ((0 : Int), (min b e)) = pick (rpar_s 13 a b c e) m := by
  unfold rpar_s pick
  simp only [Int.reduceBEq, cond_true, cond_false, rsma_eq, Bool.not_true]
theorem t14 (F : Fit w m a b c e W) : ((max a c), (sful_s b e)) = pick (rpar_s 14 a b c e) m := by
  have h64 := F.m64
  obtain ⟨hw, lo, hi, hm, ha, ab, hb, hc, ce, he⟩ := F
  unfold rpar_s pick
  rw [full_same (by omega) (by omega)]
  simp only [Int.reduceBEq, cond_true, cond_false, rgre_eq, Bool.not_true]
theorem t15 (F : Fit w m a b c e W) : ((0 : Int), (sful_s b e)) = pick (rpar_s 15 a b c e) m := by
  have h64 := F.m64
  obtain ⟨hw, lo, hi, hm, ha, ab, hb, hc, ce, he⟩ := F
  unfold rpar_s pick
  rw [full_same (by omega) (by omega)]
  simp only [Int.reduceBEq, cond_true, cond_false, Bool.not_true]
theorem t16 (F : Fit w m a b c e W) : smov_s 16 w a b c e = pick (rshi_s 16 w m a b c e) m := by
  have h64 := F.m64
  have hmask := F.mask
  obtain ⟨hw, lo, hi, hm, ha, ab, hb, hc, ce, he⟩ := F
  unfold smov_s rshi_s whol_s pick
  simp only [Int.reduceBEq, cond_true, cond_false]
  rw [hmask]
  by_cases h : e < IntKind.u64.wrap w
  · rw [decide_eq_true h]
    have hew : e < W := by rw [hw, u64_small (by omega) (by omega)] at h; exact h
    obtain ⟨E, rfl⟩ : ∃ E : Nat, e = E := ⟨e.toNat, by omega⟩
    obtain ⟨C, rfl⟩ : ∃ C : Nat, c = C := ⟨c.toNat, by omega⟩
    have pw : ∀ k : Nat, k < 64 → (2 : Int) ^ k < 18446744073709551616 := fun k hk => by
      have : (2 : Nat) ^ k ≤ 2 ^ 63 := Nat.pow_le_pow_right (by decide) (by omega)
      rw [pow_cast]; omega
    have hE := pw E (by omega)
    have gE := pow_ge1 E
    have gC := pow_ge1 C
    rw [rtwo_eq (show E < 64 by omega), rtwo_eq (show C < 64 by omega)]
    simp only [Int.toNat_natCast, Int.one_mul]
    rw [Nat.min_eq_left (show E ≤ 64 by omega), Nat.min_eq_left (show C ≤ 64 by omega), u64_small (n := (2 : Int) ^ E) (by omega) hE, stim_eq hmask h64.2 (by omega) (by omega), rfit_eq (by omega) (by omega) (by omega), Int.mul_comm (2 ^ E) b, wrap_u64 (b * 2 ^ E)]
    simp only [cond_true]
    cases decide (b * 2 ^ E ≤ m) <;> rfl
  · rw [decide_eq_false h]
    rfl
theorem t17 (F : Fit w m a b c e W) : smov_s 17 w a b c e = pick (rshi_s 17 w m a b c e) m := by
  obtain ⟨hw, lo, hi, hm, ha, ab, hb, hc, ce, he⟩ := F
  unfold smov_s rshi_s pick
  simp only [Int.reduceBEq, cond_true, cond_false, Bool.not_true]
  rw [down_same hw lo hi (by omega) (by omega), down_same hw lo hi (by omega) (by omega)]
theorem t18 (F : Fit w m a b c e W) : smov_s 18 w a b c e = pick (rshi_s 18 w m a b c e) m := by
  have hmask := F.mask
  obtain ⟨hw, lo, hi, hm, ha, ab, hb, hc, ce, he⟩ := F
  unfold smov_s rshi_s pick whol_s
  simp only [Int.reduceBEq, cond_true, cond_false, Bool.not_true]
  rw [down_same hw lo hi (by omega) (by omega), down_same hw lo hi (by omega) (by omega), hmask]
  cases decide (b > IntKind.u64.wrap (m.tdiv 2)) <;> rfl
theorem t19 : (bif decide (b < c) then ((stru_s false true).1, (stru_s false true).2) else ((stru_s false (decide (e < a))).1, (stru_s false (decide (e < a))).2)) = trOf (rtrs_s 19 m a b c e) := by
  unfold rtrs_s trOf
  simp only [Int.reduceBEq, cond_true, cond_false]
  cases decide (b < c) <;> cases decide (e < a) <;> rfl
theorem ord_same : stru_s (decide (b < c)) (decide (a ≥ e)) = trOf (rord_s a b c e) := by
  unfold rord_s trOf
  cases decide (b < c) <;> cases decide (a ≥ e) <;> rfl
theorem t20 : stru_s (decide (b < c)) (decide (a ≥ e)) = trOf (rtrs_s 20 m a b c e) := by
  unfold rtrs_s
  simp only [Int.reduceBEq, cond_true, cond_false]
  exact ord_same
theorem t21 (F : Fit w m a b c e W) : sbel_s w a b c e = trOf (rtrs_s 21 m a b c e) := by
  have hmask := F.mask
  have h64 := F.m64
  obtain ⟨hw, lo, hi, hm, ha, ab, hb, hc, ce, he⟩ := F
  have hh : IntKind.u64.wrap (m.tdiv 2) = m / 2 := by rw [Int.tdiv_eq_ediv_of_nonneg (by omega), u64_small (by omega) (by omega)]
  have htop : IntKind.u64.wrap (m - m / 2) = m / 2 + 1 := by
    obtain ⟨k, hk⟩ : ∃ k, W = k + 1 := ⟨W - 1, by omega⟩
    have := pow_ge1 k
    rw [hk, Int.pow_succ] at hm
    rw [u64_small (by omega) (by omega)]; omega
  unfold sbel_s rtrs_s sbe1_s sbe2_s
  simp only [Int.reduceBEq, cond_true, cond_false]
  rw [hmask, hh, htop]
  have l1 : decide (b < m / 2 + 1) = decide (b ≤ m / 2) := decide_eq_decide.2 (by omega)
  have l2 : decide (e < m / 2 + 1) = decide (e ≤ m / 2) := decide_eq_decide.2 (by omega)
  have u1 : decide (a ≥ m / 2 + 1) = decide (a > m / 2) := decide_eq_decide.2 (by omega)
  have u2 : decide (c ≥ m / 2 + 1) = decide (c > m / 2) := decide_eq_decide.2 (by omega)
  rw [l1, l2, u1, u2]
  have x1 : decide (b ≤ m / 2) = true → decide (a > m / 2) = false := fun h => decide_eq_false (by have := of_decide_eq_true h; omega)
  have x2 : decide (e ≤ m / 2) = true → decide (c > m / 2) = false := fun h => decide_eq_false (by have := of_decide_eq_true h; omega)
  have o := ord_same (a := a) (b := b) (c := c) (e := e)
  cases p1 : decide (b ≤ m / 2) <;> cases p2 : decide (e ≤ m / 2) <;> cases p3 : decide (a > m / 2) <;> cases p4 : decide (c > m / 2) <;> first
    | exact o
    | rfl
    | (have := x1 p1; rw [p3] at this; cases this)
    | (have := x2 p2; rw [p4] at this; cases this)
end
end Go.Proofs.YtdfifogicefkjaaGreatDoor.Sx.M5
/- SpanTells: every answer is the document's. -/
open Go Go.Proofs Go.RowKit
namespace Go.Proofs.YtdfifogicefkjaaGreatDoor.Sx.M5
set_option linter.unusedVariables false
set_option linter.unusedSimpArgs false
theorem rsri_eq (w a b : Int) : rsri_s w a b = srig_s w a b := by
  unfold rsri_s srig_s whol_s
  rw [rmsk_int]
theorem rsjo_eq (w a b c e : Int) : rsjo_s w a b c e = sjoi_s w a b c e := by
  unfold rsjo_s sjoi_s
  rw [rsri_eq, rsri_eq, rgre_eq, rsma_eq]
theorem srig_le {w a b : Int} : (srig_s w a b).2 ≤ mask_s w := by
  unfold srig_s whol_s
  by_cases h1 : a > b
  · rw [decide_eq_true h1]; exact Int.le_refl _
  · rw [decide_eq_false h1]
    by_cases h2 : b > mask_s w
    · rw [decide_eq_true h2]; exact Int.le_refl _
    · rw [decide_eq_false h2]; show b ≤ _; omega
theorem pt_eq (x y : Int) : ((x == (pnt_s x).1) && (y == (pnt_s x).2)) = (x == y) := by
  unfold pnt_s
  rw [beq_self_eq_true, Bool.true_and]
  by_cases h : x = y
  · rw [h]
  · rw [beq_eq_false_iff_ne.2 h, beq_eq_false_iff_ne.2 (Ne.symm h)]
section
variable {w m a b c e : Int} {W : Nat}
theorem u5 (F : Fit w m a b c e W) : stab_s 5 w a b c e = pick (rsum_s 5 m a b c e) m := by
  unfold stab_s pick rsum_s
  rw [F.mask]
  simp only [Int.reduceBEq, cond_true, Bool.not_true, cond_false]
theorem u8 (F : Fit w m a b c e W) : stab_s 8 w a b c e = pick (rsum_s 8 m a b c e) m := by
  unfold stab_s
  simp only [Int.reduceBEq, cond_true, cond_false]
  exact t8 F
theorem u9 (F : Fit w m a b c e W) : stab_s 9 w a b c e = pick (rsum_s 9 m a b c e) m := by
  unfold stab_s
  simp only [Int.reduceBEq, cond_true, cond_false]
  exact t9 F
theorem u10 (F : Fit w m a b c e W) : stab_s 10 w a b c e = pick (rsum_s 10 m a b c e) m := by
  unfold stab_s
  simp only [Int.reduceBEq, cond_true, cond_false]
  exact t10 F
theorem u11 (F : Fit w m a b c e W) : stab_s 11 w a b c e = pick (rpar_s 11 a b c e) m := by
  unfold stab_s
  simp only [Int.reduceBEq, cond_true, cond_false]
  exact t11 F
theorem u12 (F : Fit w m a b c e W) : stab_s 12 w a b c e = pick (rpar_s 12 a b c e) m := by
  unfold stab_s
  simp only [Int.reduceBEq, cond_true, cond_false]
  exact t12 F
theorem u13 (F : Fit w m a b c e W) : stab_s 13 w a b c e = pick (rpar_s 13 a b c e) m := by
  unfold stab_s
  simp only [Int.reduceBEq, cond_true, cond_false]
  exact t13 (m := m)
theorem u14 (F : Fit w m a b c e W) : stab_s 14 w a b c e = pick (rpar_s 14 a b c e) m := by
  unfold stab_s
  simp only [Int.reduceBEq, cond_true, cond_false]
  exact t14 F
theorem u15 (F : Fit w m a b c e W) : stab_s 15 w a b c e = pick (rpar_s 15 a b c e) m := by
  unfold stab_s
  simp only [Int.reduceBEq, cond_true, cond_false]
  exact t15 F
theorem u16 (F : Fit w m a b c e W) : stab_s 16 w a b c e = pick (rshi_s 16 w m a b c e) m := by
  unfold stab_s
  simp only [Int.reduceBEq, cond_true, cond_false]
  exact t16 F
theorem u17 (F : Fit w m a b c e W) : stab_s 17 w a b c e = pick (rshi_s 17 w m a b c e) m := by
  unfold stab_s
  simp only [Int.reduceBEq, cond_true, cond_false]
  exact t17 F
theorem u18 (F : Fit w m a b c e W) : stab_s 18 w a b c e = pick (rshi_s 18 w m a b c e) m := by
  unfold stab_s
  simp only [Int.reduceBEq, cond_true, cond_false]
  exact t18 F
theorem u19 (F : Fit w m a b c e W) : stab_s 19 w a b c e = trOf (rtrs_s 19 m a b c e) := by
  unfold stab_s
  simp only [Int.reduceBEq, cond_true, cond_false]
  exact t19 (m := m)
theorem u20 (F : Fit w m a b c e W) : stab_s 20 w a b c e = trOf (rtrs_s 20 m a b c e) := by
  unfold stab_s
  simp only [Int.reduceBEq, cond_true, cond_false]
  exact t20 (m := m)
theorem u21 (F : Fit w m a b c e W) : stab_s 21 w a b c e = trOf (rtrs_s 21 m a b c e) := by
  unfold stab_s
  simp only [Int.reduceBEq, cond_true, cond_false]
  exact t21 F
end
set_option maxRecDepth 100000 in
theorem sapp_same (op w a b c e : Int) (ha : 0 ≤ a ∧ a < 18446744073709551616) (hb : 0 ≤ b ∧ b < 18446744073709551616) (hc : 0 ≤ c ∧ c < 18446744073709551616) (he : 0 ≤ e ∧ e < 18446744073709551616) : sapp_s op w a b c e = rsap_s op w a b c e := by
  obtain ⟨h1, h2⟩ := cw_range w
  have hv : max 1 (min w 64) = (cw w : Int) := by unfold cw; omega
  unfold sapp_s rsap_s
  rw [rwid_eq, rsri_eq, rsri_eq, rmsk_int, hv]
  simp only [pt_eq]
  have g1 := srig_rng (w := (cw w : Int)) ha hb
  have g2 := srig_rng (w := (cw w : Int)) hc he
  have l1 := srig_le (w := (cw w : Int)) (a := a) (b := b)
  have l2 := srig_le (w := (cw w : Int)) (a := c) (b := e)
  have hm := mask_int (cw w : Int)
  rw [cw_cw] at hm
  generalize mask_s (cw w : Int) = M at *
  generalize srig_s (cw w : Int) a b = X at *
  generalize srig_s (cw w : Int) c e = Y at *
  obtain ⟨x1, x2⟩ := X
  obtain ⟨y1, y2⟩ := Y
  simp only at *
  have F : Fit (cw w : Int) M x1 x2 y1 y2 (cw w) := ⟨rfl, h1, h2, hm, g1.1.1, g1.2.2, l1, g2.1.1, g2.2.2, l2⟩
  have hws := word_same op (cw w : Int) g1.1 g2.1
  by_cases o1 : op < 5
  · rw [decide_eq_true o1]; rfl
  rw [decide_eq_false o1]
  by_cases o2 : op > 21
  · rw [decide_eq_true o2]; rfl
  rw [decide_eq_false o2, hws]
  clear hws
  rcases (show op = 5 ∨ op = 6 ∨ op = 7 ∨ op = 8 ∨ op = 9 ∨ op = 10 ∨ op = 11 ∨ op = 12 ∨ op = 13 ∨ op = 14 ∨ op = 15 ∨ op = 16 ∨ op = 17 ∨ op = 18 ∨ op = 19 ∨ op = 20 ∨ op = 21 by omega) with rfl | rfl | rfl | rfl | rfl | rfl | rfl | rfl | rfl | rfl | rfl | rfl | rfl | rfl | rfl | rfl | rfl
  · simp only [Int.reduceBEq, cond_true, cond_false, ge_iff_le, Int.reduceLE, decide_true, decide_false]
    rw [u5 F]
    cases (x1 == x2) <;> rfl
  · rfl
  · rfl
  · simp only [Int.reduceBEq, cond_true, cond_false, ge_iff_le, Int.reduceLE, decide_true, decide_false]
    rw [u8 F]
    cases (x1 == x2) <;> cases (y1 == y2) <;> rfl
  · simp only [Int.reduceBEq, cond_true, cond_false, ge_iff_le, Int.reduceLE, decide_true, decide_false]
    rw [u9 F]
    cases (x1 == x2) <;> cases (y1 == y2) <;> rfl
  · simp only [Int.reduceBEq, cond_true, cond_false, ge_iff_le, Int.reduceLE, decide_true, decide_false]
    rw [u10 F]
    cases (x1 == x2) <;> cases (y1 == y2) <;> rfl
  · simp only [Int.reduceBEq, cond_true, cond_false, ge_iff_le, Int.reduceLE, decide_true, decide_false]
    rw [u11 F]
    cases (x1 == x2) <;> cases (y1 == y2) <;> rfl
  · simp only [Int.reduceBEq, cond_true, cond_false, ge_iff_le, Int.reduceLE, decide_true, decide_false]
    rw [u12 F]
    cases (x1 == x2) <;> cases (y1 == y2) <;> rfl
  · simp only [Int.reduceBEq, cond_true, cond_false, ge_iff_le, Int.reduceLE, decide_true, decide_false]
    rw [u13 F]
    cases (x1 == x2) <;> cases (y1 == y2) <;> rfl
  · simp only [Int.reduceBEq, cond_true, cond_false, ge_iff_le, Int.reduceLE, decide_true, decide_false]
    rw [u14 F]
    cases (x1 == x2) <;> cases (y1 == y2) <;> rfl
  · simp only [Int.reduceBEq, cond_true, cond_false, ge_iff_le, Int.reduceLE, decide_true, decide_false]
    rw [u15 F]
    cases (x1 == x2) <;> cases (y1 == y2) <;> rfl
  · simp only [Int.reduceBEq, cond_true, cond_false, ge_iff_le, Int.reduceLE, decide_true, decide_false]
    rw [u16 F]
    cases (x1 == x2) <;> cases (y1 == y2) <;> rfl
  · simp only [Int.reduceBEq, cond_true, cond_false, ge_iff_le, Int.reduceLE, decide_true, decide_false]
    rw [u17 F]
    cases (x1 == x2) <;> cases (y1 == y2) <;> rfl
  · simp only [Int.reduceBEq, cond_true, cond_false, ge_iff_le, Int.reduceLE, decide_true, decide_false]
    rw [u18 F]
    cases (x1 == x2) <;> cases (y1 == y2) <;> rfl
  · simp only [Int.reduceBEq, cond_true, cond_false, ge_iff_le, Int.reduceLE, decide_true, decide_false]
    rw [u19 F]
    cases (x1 == x2) <;> cases (y1 == y2) <;> rfl
  · simp only [Int.reduceBEq, cond_true, cond_false, ge_iff_le, Int.reduceLE, decide_true, decide_false]
    rw [u20 F]
    cases (x1 == x2) <;> cases (y1 == y2) <;> rfl
  · simp only [Int.reduceBEq, cond_true, cond_false, ge_iff_le, Int.reduceLE, decide_true, decide_false]
    rw [u21 F]
    cases (x1 == x2) <;> cases (y1 == y2) <;> rfl
end Go.Proofs.YtdfifogicefkjaaGreatDoor.Sx.M5
