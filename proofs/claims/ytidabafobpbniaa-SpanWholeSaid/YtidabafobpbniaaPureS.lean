/- Spans, the plain law: what the laws ask of span.Apply; the example that keeps them awake. -/
import Derived.Test.YtidabafobpbniaaPureM
import Derived.Test.YtidabafobpbniaaPx12
namespace Go.Proofs.Ytidabafobpbniaa.Pure
open Go.RowKit Go.Proofs.Ytidabafobpbniaa.P Go.Proofs.YtidabafobpbniaaW.PrintWords Go.Proofs.YtidabafobpbniaaW.PrintLast Go.Proofs.YtidabafobpbniaaW.PrintMore
set_option linter.unusedVariables false
set_option linter.unusedSimpArgs false

theorem nat_of_wf {x : Int} (h : (Lit.int .u64 x).wf = true) : ∃ n : Nat, x = (n : Int) ∧ n < 2 ^ 64 := by
  have q : 0 ≤ x ∧ x < 18446744073709551616 := by
    simp only [Lit.wf, Bool.and_eq_true, decide_eq_true_eq] at h
    have h1 : IntKind.u64.min = 0 := rfl
    have h2 : IntKind.u64.max = 18446744073709551615 := rfl
    omega
  exact ⟨x.toNat, by omega, by omega⟩
theorem apply_none {op : Int} (h : ¬ isOp op) (W a b : Nat) : applyN op W a b = 0 := by
  unfold isOp at h
  unfold applyN
  repeat rw [if_neg (by omega)]
/-- What span.Apply answers holds what word.Apply answers. -/
theorem sapply_sound (op : Int) {W : Nat} (h1 : 1 ≤ W) {x y : Nat × Nat} (hx : Ok W x) (hy : Ok W y) {a b : Nat} (ha : x.1 ≤ a ∧ a ≤ x.2) (hb : y.1 ≤ b ∧ b ≤ y.2) : Sound W (sapplyN op W x y) (applyN op W a b) := by
  have hp : 0 < 2 ^ W := Nat.pow_pos (by decide)
  unfold sapplyN
  by_cases o : isOp op
  · rw [if_pos o]
    by_cases c : x.1 = x.2 ∧ (op = 5 ∨ y.1 = y.2)
    · rw [if_pos c]
      have e : applyN op W x.1 y.1 = applyN op W a b := by
        have ea : x.1 = a := by omega
        rcases c.2 with rfl | d
        · rw [ea]; simp [applyN]
        · have eb : y.1 = b := by omega
          rw [ea, eb]
      unfold Ok at hx hy
      have := apply_lt op h1 (x := x.1) (y := y.1) (by omega) (by omega)
      unfold Sound
      rw [e] at this ⊢
      simp only
      omega
    · rw [if_neg c]
      exact table_sound o h1 hx hy ha hb
  · rw [if_neg o, apply_none o]
    unfold Sound
    simp
theorem sapply_ok (op : Int) {W : Nat} (h1 : 1 ≤ W) {x y : Nat × Nat} (hx : Ok W x) (hy : Ok W y) : Ok W (sapplyN op W x y) := by
  have q := sapply_sound op h1 hx hy (a := x.1) (b := y.1) ⟨Nat.le_refl _, hx.1⟩ ⟨Nat.le_refl _, hy.1⟩
  unfold Sound at q
  unfold Ok
  omega
theorem sapply_point (op : Int) (W a b : Nat) : sapplyN op W (a, a) (b, b) = (applyN op W a b, applyN op W a b) := by
  unfold sapplyN
  by_cases o : isOp op
  · rw [if_pos o, if_pos ⟨rfl, .inr rfl⟩]
  · rw [if_neg o, apply_none o]
theorem awake_eq (k : Nat) : backreachlaw11_awake.f (k + 5) = some true := by
  unfold backreachlaw11_awake.f
  have e1 : span_Apply.f (k + 5) 8 8 200 210 50 60 = some (0, 255) := by
    have q := sapply_eq k 8 8 (200, 210) (50, 60)
    have r : sapplyN 8 (cw 8) (rightN (cw 8) (200, 210)) (rightN (cw 8) (50, 60)) = (0, 255) := by decide
    rw [r] at q
    exact q
  have e2 : span_Apply.f (k + 5) 8 8 250 255 10 10 = some (4, 9) := by
    have q := sapply_eq k 8 8 (250, 255) (10, 10)
    have r : sapplyN 8 (cw 8) (rightN (cw 8) (250, 255)) (rightN (cw 8) (10, 10)) = (4, 9) := by decide
    rw [r] at q
    exact q
  have e3 : span_Has.f 8 3 5 260 = some true := by
    have q := has_eq 8 (3, 5) 260 (by decide)
    have r : hasN (cw 8) (3, 5) 260 = true := by decide
    rw [r] at q
    exact q
  rw [e1]
  simp only [Option.bind_some]
  rw [if_pos (by decide), e2]
  simp only [Option.bind_some]
  rw [if_pos (by decide), e3]
  rfl
theorem has_ok {W : Nat} {x : Nat × Nat} {a : Nat} (h : hasN W x a = true) : (rightN W x).1 ≤ a % 2 ^ W ∧ a % 2 ^ W ≤ (rightN W x).2 := by
  unfold hasN at h
  simpa using h
end Go.Proofs.Ytidabafobpbniaa.Pure
