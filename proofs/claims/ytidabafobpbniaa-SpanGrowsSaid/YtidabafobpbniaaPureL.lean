/- Spans, the plain law: what the program's functions of layer 11 come to, of natural numbers. -/
import Derived.Test.YtidabafobpbniaaPureN
import Derived.Test.YtidabafobpbniaaPx11
import Derived.Test.YtidabafobpbniaaPx4
import Derived.Test.YtidabafobpbniaaPx14
import Derived.Test.YtidabafobpbniaaPx17
namespace Go.Proofs.Ytidabafobpbniaa.Pure
open Go.RowKit Go.Proofs.Ytidabafobpbniaa.P Go.Proofs.YtidabafobpbniaaW.PrintWords Go.Proofs.YtidabafobpbniaaW.PrintLast Go.Proofs.YtidabafobpbniaaW.PrintMore
set_option linter.unusedVariables false
set_option linter.unusedSimpArgs false

def ZZ (x : Nat × Nat) : Int × Int := ((x.1 : Int), (x.2 : Int))
theorem whole_eq (w : Int) : span_whole.f w = some (ZZ (0, 2 ^ cw w - 1)) := by
  unfold span_whole.f ZZ
  rw [mask_eq]
  rfl
theorem sright_eq (w : Int) (x : Nat × Nat) : span_Right.f w (x.1 : Int) (x.2 : Int) = some (ZZ (rightN (cw w) x)) := by
  unfold span_Right.f rightN
  rw [whole_eq, mask_eq]
  simp only [Option.bind_some]
  by_cases a : x.2 < x.1
  · rw [if_pos (show (x.1 : Int) > (x.2 : Int) by omega), if_pos a]
  · rw [if_neg (show ¬ (x.1 : Int) > (x.2 : Int) by omega), if_neg a]
    by_cases b : 2 ^ cw w - 1 < x.2
    · rw [if_pos (show (x.2 : Int) > ((2 ^ cw w - 1 : Nat) : Int) by omega), if_pos b]
    · rw [if_neg (show ¬ (x.2 : Int) > ((2 ^ cw w - 1 : Nat) : Int) by omega), if_neg b]
      rfl
def hasN (W : Nat) (x : Nat × Nat) (a : Nat) : Bool := decide ((rightN W x).1 ≤ a % 2 ^ W) && decide (a % 2 ^ W ≤ (rightN W x).2)
theorem has_eq (w : Int) (x : Nat × Nat) (a : Nat) (ha : a < 2 ^ 64) : span_Has.f w (x.1 : Int) (x.2 : Int) (a : Int) = some (hasN (cw w) x a) := by
  unfold span_Has.f hasN
  rw [sright_eq, cut_eq w a ha]
  simp only [Option.bind_some, ZZ]
  by_cases c : (rightN (cw w) x).1 ≤ a % 2 ^ cw w
  · rw [if_pos (show ((a % 2 ^ cw w : Nat) : Int) ≥ ((rightN (cw w) x).1 : Int) by omega), decide_eq_true c, Bool.true_and]
    congr 1
    apply Bool.eq_iff_iff.2
    simp only [decide_eq_true_eq]
    omega
  · rw [if_neg (show ¬ ((a % 2 ^ cw w : Nat) : Int) ≥ ((rightN (cw w) x).1 : Int) by omega), decide_eq_false c, Bool.false_and]
def joinN (W : Nat) (x y : Nat × Nat) : Nat × Nat := (min (rightN W x).1 (rightN W y).1, max (rightN W x).2 (rightN W y).2)
theorem mn_nat (a b : Nat) : mn (a : Int) (b : Int) = ((min a b : Nat) : Int) := by unfold mn; split <;> omega
theorem mx_nat (a b : Nat) : mx (a : Int) (b : Int) = ((max a b : Nat) : Int) := by unfold mx; split <;> omega
theorem join_eq (w : Int) (x y : Nat × Nat) : span_Join.f w (x.1 : Int) (x.2 : Int) (y.1 : Int) (y.2 : Int) = some (ZZ (joinN (cw w) x y)) := by
  unfold span_Join.f joinN
  rw [sright_eq, sright_eq]
  simp only [Option.bind_some, ZZ, mn_nat, mx_nat]
def meetN (W : Nat) (x y : Nat × Nat) : (Nat × Nat) × Bool := if min (rightN W x).2 (rightN W y).2 < max (rightN W x).1 (rightN W y).1 then ((0, 0), false) else ((max (rightN W x).1 (rightN W y).1, min (rightN W x).2 (rightN W y).2), true)
theorem meet_eq (w : Int) (x y : Nat × Nat) : span_Meet.f w (x.1 : Int) (x.2 : Int) (y.1 : Int) (y.2 : Int) = some (((meetN (cw w) x y).1.1 : Int), ((meetN (cw w) x y).1.2 : Int), (meetN (cw w) x y).2) := by
  unfold span_Meet.f meetN
  rw [sright_eq, sright_eq]
  simp only [Option.bind_some, ZZ, mn_nat, mx_nat]
  by_cases c : min (rightN (cw w) x).2 (rightN (cw w) y).2 < max (rightN (cw w) x).1 (rightN (cw w) y).1
  · rw [if_pos (show ((max (rightN (cw w) x).1 (rightN (cw w) y).1 : Nat) : Int) > ((min (rightN (cw w) x).2 (rightN (cw w) y).2 : Nat) : Int) by omega), if_pos c]; rfl
  · rw [if_neg (show ¬ ((max (rightN (cw w) x).1 (rightN (cw w) y).1 : Nat) : Int) > ((min (rightN (cw w) x).2 (rightN (cw w) y).2 : Nat) : Int) by omega), if_neg c]
theorem truth_eq (a b : Bool) : span_truth.f a b = some (ZZ (truthN a b)) := by
  unfold span_truth.f truthN span_point.f
  cases a <;> cases b <;> rfl
theorem mul64_eq (x y : Nat) (hx : x < 2 ^ 64) (hy : y < 2 ^ 64) : bits_Mul64.f (x : Int) (y : Int) = some (((x * y / 2 ^ 64 : Nat) : Int), ((x * y % 2 ^ 64 : Nat) : Int)) := by
  unfold bits_Mul64.f
  have hm : ∀ z : Nat, z < 2 ^ 64 → Go.bits .and .u64 (z : Int) 4294967295 = ((z % 4294967296 : Nat) : Int) := fun z hz => by
    have := and_nat z (2 ^ 32 - 1) hz (by decide)
    rw [Nat.and_two_pow_sub_one_eq_mod] at this
    exact this
  obtain ⟨x1, x0, ex, hx1, hx0⟩ : ∃ x1 x0, x = x1 * 4294967296 + x0 ∧ x1 < 4294967296 ∧ x0 < 4294967296 := ⟨x / 4294967296, x % 4294967296, by omega, by omega, by omega⟩
  obtain ⟨y1, y0, ey, hy1, hy0⟩ : ∃ y1 y0, y = y1 * 4294967296 + y0 ∧ y1 < 4294967296 ∧ y0 < 4294967296 := ⟨y / 4294967296, y % 4294967296, by omega, by omega, by omega⟩
  have ax1 : (x : Int) / 4294967296 = (x1 : Int) := by omega
  have ay1 : (y : Int) / 4294967296 = (y1 : Int) := by omega
  have ax0 : Go.bits .and .u64 (x : Int) 4294967295 = (x0 : Int) := by rw [hm x hx]; omega
  have ay0 : Go.bits .and .u64 (y : Int) 4294967295 = (y0 : Int) := by rw [hm y hy]; omega
  have e2 : x * y % 2 ^ 64 = (x * y) % 18446744073709551616 := rfl
  rw [ax1, ay1, ax0, ay0]
  have bnd : ∀ a b : Nat, a < 4294967296 → b < 4294967296 → a * b ≤ 18446744065119617025 := fun a b ha hb => Nat.mul_le_mul (show a ≤ 4294967295 by omega) (show b ≤ 4294967295 by omega)
  have c00 := bnd x0 y0 hx0 hy0
  have c10 := bnd x1 y0 hx1 hy0
  have c01 := bnd x0 y1 hx0 hy1
  have c11 := bnd x1 y1 hx1 hy1
  have prod : x * y = (x1 * y1) * 18446744073709551616 + (x1 * y0 + x0 * y1) * 4294967296 + x0 * y0 := by
    rw [ex, ey, Nat.add_mul, Nat.mul_add, Nat.mul_add]
    have a1 : x1 * 4294967296 * (y1 * 4294967296) = x1 * y1 * 18446744073709551616 := by
      rw [Nat.mul_mul_mul_comm]
    have a2 : x1 * 4294967296 * y0 = x1 * y0 * 4294967296 := by rw [Nat.mul_right_comm]
    have a3 : x0 * (y1 * 4294967296) = x0 * y1 * 4294967296 := by rw [Nat.mul_assoc]
    rw [a1, a2, a3, Nat.add_mul]
    omega
  have w3 : IntKind.u64.wrap ((x : Int) * (y : Int)) = ((x * y % 2 ^ 64 : Nat) : Int) := by rw [← Int.natCast_mul, u64_nat]
  rw [w3]
  simp only [← Int.natCast_mul]
  generalize x0 * y0 = p00 at *
  generalize x1 * y0 = p10 at *
  generalize x0 * y1 = p01 at *
  generalize x1 * y1 = p11 at *
  rw [prod]
  have q1 : IntKind.u64.wrap (p00 : Int) = (p00 : Int) := u64_small (by omega) (by omega)
  have q2 : IntKind.u64.wrap (p10 : Int) = (p10 : Int) := u64_small (by omega) (by omega)
  have q3 : IntKind.u64.wrap (p01 : Int) = (p01 : Int) := u64_small (by omega) (by omega)
  have q4 : IntKind.u64.wrap (p11 : Int) = (p11 : Int) := u64_small (by omega) (by omega)
  rw [q1, q2, q3, q4]
  obtain ⟨t, ht⟩ : ∃ t : Nat, t = p10 + p00 / 4294967296 := ⟨_, rfl⟩
  have q5 : IntKind.u64.wrap ((p10 : Int) + (p00 : Int) / 4294967296) = (t : Int) := by rw [u64_small (by omega) (by omega)]; omega
  rw [q5, hm t (by omega)]
  obtain ⟨u, hu⟩ : ∃ u : Nat, u = t % 4294967296 + p01 := ⟨_, rfl⟩
  have q6 : IntKind.u64.wrap (((t % 4294967296 : Nat) : Int) + (p01 : Int)) = (u : Int) := by rw [u64_small (by omega) (by omega)]; omega
  rw [q6]
  congr 2
  rw [u64_wrap, u64_wrap]
  have e64 : (2 : Nat) ^ 64 = 18446744073709551616 := by decide
  rw [e64]
  omega
theorem times_eq (w : Int) (x y : Nat) (hx : x < 2 ^ 64) (hy : y < 2 ^ 64) : span_times.f w (x : Int) (y : Int) = some (((x * y % 2 ^ 64 : Nat) : Int), decide (x * y < 2 ^ cw w)) := by
  have hr := cw_range w
  have hp := pow_le64 hr.2
  have hpos : 0 < 2 ^ cw w := Nat.two_pow_pos _
  unfold span_times.f
  rw [mul64_eq x y hx hy, mask_eq]
  simp only [Option.bind_some]
  generalize x * y = z
  by_cases c : z / 2 ^ 64 = 0
  · rw [if_pos (show ((z / 2 ^ 64 : Nat) : Int) = 0 by omega)]
    have hz : z < 2 ^ 64 := by omega
    rw [Nat.mod_eq_of_lt hz]
    congr 2
    apply Bool.eq_iff_iff.2
    simp only [decide_eq_true_eq]
    omega
  · rw [if_neg (show ¬ ((z / 2 ^ 64 : Nat) : Int) = 0 by omega)]
    have hz : ¬ z < 2 ^ cw w := by omega
    rw [decide_eq_false hz]
end Go.Proofs.Ytidabafobpbniaa.Pure
