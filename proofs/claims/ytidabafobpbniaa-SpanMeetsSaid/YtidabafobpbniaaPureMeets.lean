/- Spans, the plain law: SpanMeets. -/
import Derived.Test.YtidabafobpbniaaPureS
import Derived.Test.YtidabafobpbniaaGy
namespace Go.Proofs.Ytidabafobpbniaa.Pure
open Go.RowKit Go.Proofs.Ytidabafobpbniaa.P Go.Proofs.YtidabafobpbniaaW.PrintWords Go.Proofs.YtidabafobpbniaaW.PrintLast Go.Proofs.YtidabafobpbniaaW.PrintMore
set_option linter.unusedVariables false
set_option linter.unusedSimpArgs false

theorem join_okm (W : Nat) (x y : Nat × Nat) : Ok W (joinN W x y) := by
  have hx := right_ok W x
  have hy := right_ok W y
  unfold Ok at *
  unfold joinN
  simp only
  omega
theorem join_comm (W : Nat) (x y : Nat × Nat) : joinN W y x = joinN W x y := by
  unfold joinN
  rw [Nat.min_comm, Nat.max_comm]
theorem meet_comm (W : Nat) (x y : Nat × Nat) : meetN W y x = meetN W x y := by
  unfold meetN
  rw [Nat.min_comm, Nat.max_comm]
/-- Both have a word, if the spans meet and where they meet has it. -/
theorem meet_has (W : Nat) (x y : Nat × Nat) (n : Nat) : (hasN W x n && hasN W y n) = ((meetN W x y).2 && hasN W (meetN W x y).1 n) := by
  have hx := right_ok W x
  have hy := right_ok W y
  unfold Ok at hx hy
  unfold meetN hasN
  generalize rightN W x = X at *
  generalize rightN W y = Y at *
  by_cases c : min X.2 Y.2 < max X.1 Y.1
  · rw [if_pos c]
    simp only [Bool.false_and, Bool.and_eq_false_iff, decide_eq_false_iff_not]
    omega
  · rw [if_neg c]
    have o : Ok W (max X.1 Y.1, min X.2 Y.2) := by unfold Ok; simp only; omega
    simp only
    rw [right_of o]
    apply Bool.eq_iff_iff.2
    simp only [Bool.true_and, Bool.and_eq_true, decide_eq_true_eq]
    omega
theorem join_has (W : Nat) (x y : Nat × Nat) (n : Nat) (h : (rightN W x).1 ≤ n % 2 ^ W ∧ n % 2 ^ W ≤ (rightN W x).2 ∨ (rightN W y).1 ≤ n % 2 ^ W ∧ n % 2 ^ W ≤ (rightN W y).2) : hasN W (joinN W x y) n = true := by
  unfold hasN
  rw [right_of (join_okm W x y)]
  unfold joinN
  simp only [Bool.and_eq_true, decide_eq_true_eq]
  omega
theorem SpanMeets_row (a0 : Int) (a1_0 a1_1 : Int) (a2_0 a2_1 : Int) (a3 : Int) (h0_ : (Lit.int .i64 a0).wf = true) (h1_ : (Lit.int .u64 a1_0).wf = true) (h2_ : (Lit.int .u64 a1_1).wf = true) (h3_ : (Lit.int .u64 a2_0).wf = true) (h4_ : (Lit.int .u64 a2_1).wf = true) (h5_ : (Lit.int .u64 a3).wf = true) : ∃ k, backreachlaw11_SpanMeets.f k a0 a1_0 a1_1 a2_0 a2_1 a3 = some true := by
  obtain ⟨x0, rfl, l0⟩ := nat_of_wf h1_
  obtain ⟨x1, rfl, l1⟩ := nat_of_wf h2_
  obtain ⟨y0, rfl, l2⟩ := nat_of_wf h3_
  obtain ⟨y1, rfl, l3⟩ := nat_of_wf h4_
  obtain ⟨n, rfl, l4⟩ := nat_of_wf h5_
  have hr := cw_range a0
  have hp := pow_le64 hr.2
  have pp : 0 < 2 ^ cw a0 := Nat.pow_pos (by decide)
  refine ⟨5, ?_⟩
  have hx := right_ok (cw a0) (x0, x1)
  have hy := right_ok (cw a0) (y0, y1)
  unfold Ok at hx hy
  have m1 := meet_eq a0 (x0, x1) (y0, y1)
  have m2 := meet_eq a0 (y0, y1) (x0, x1)
  rw [meet_comm] at m2
  have j1 := join_eq a0 (x0, x1) (y0, y1)
  have j2 := join_eq a0 (y0, y1) (x0, x1)
  rw [join_comm] at j2
  have q := meet_has (cw a0) (x0, x1) (y0, y1) n
  have jh := join_has (cw a0) (x0, x1) (y0, y1)
  have r1 := sright_eq a0 (x0, x1)
  have r2 := sright_eq a0 (y0, y1)
  simp only at m1 m2 j1 j2 r1 r2
  have hin := has_eq a0 (x0, x1) n l4
  have hon := has_eq a0 (y0, y1) n l4
  simp only at hin hon
  have oi : hasN (cw a0) (x0, x1) n = true → hasN (cw a0) (joinN (cw a0) (x0, x1) (y0, y1)) n = true := fun c => jh n (.inl (has_ok c))
  have oo : hasN (cw a0) (y0, y1) n = true → hasN (cw a0) (joinN (cw a0) (x0, x1) (y0, y1)) n = true := fun c => jh n (.inr (has_ok c))
  have k1 : hasN (cw a0) (joinN (cw a0) (x0, x1) (y0, y1)) (rightN (cw a0) (x0, x1)).1 = true := jh _ (.inl (by rw [Nat.mod_eq_of_lt (by omega)]; omega))
  have k2 : hasN (cw a0) (joinN (cw a0) (x0, x1) (y0, y1)) (rightN (cw a0) (y0, y1)).2 = true := jh _ (.inr (by rw [Nat.mod_eq_of_lt (by omega)]; omega))
  generalize joinN (cw a0) (x0, x1) (y0, y1) = J at *
  have hm := has_eq a0 (meetN (cw a0) (x0, x1) (y0, y1)).1 n l4
  generalize meetN (cw a0) (x0, x1) (y0, y1) = M at *
  have hj : ∀ m : Nat, m < 2 ^ 64 → hasN (cw a0) J m = true → span_Has.f a0 (ZZ J).1 (ZZ J).2 (m : Int) = some true := fun m l h => by
    have := has_eq a0 J m l
    rw [h] at this
    exact this
  have b1 := hj _ (by omega) k1
  have b2 := hj _ (by omega) k2
  have tail1 : ∀ (p : Bool), ((span_Right.f a0 (x0 : Int) (x1 : Int)).bind fun bt226 => ((span_Has.f a0 (ZZ J).1 (ZZ J).2 bt226.1).bind fun t228 => (if t228 = true then ((span_Right.f a0 (y0 : Int) (y1 : Int)).bind fun bt229 => ((span_Has.f a0 (ZZ J).1 (ZZ J).2 bt229.2).bind fun t231 => (some t231))) else (some false)))) = some true := by
    intro p
    rw [r1, r2]
    simp only [Option.bind_some]
    rw [show (ZZ (rightN (cw a0) (x0, x1))).1 = (((rightN (cw a0) (x0, x1)).1 : Nat) : Int) from rfl, show (ZZ (rightN (cw a0) (y0, y1))).2 = (((rightN (cw a0) (y0, y1)).2 : Nat) : Int) from rfl, b1, b2]
    simp
  have jj : backreachlaw11_SpanMeets.j0 5 a0 (n : Int) (hasN (cw a0) (x0, x1) n) (hasN (cw a0) (y0, y1) n) false (x0 : Int) (x1 : Int) (y0 : Int) (y1 : Int) (ZZ J).1 (ZZ J).2 = some true := by
    simp only [backreachlaw11_SpanMeets.j0, Bool.false_eq_true, if_false]
    cases c : hasN (cw a0) (x0, x1) n
    · simp only [Bool.false_eq_true, if_false]
      cases d : hasN (cw a0) (y0, y1) n
      · simp only [Bool.false_eq_true, if_false]
        exact tail1 true
      · simp only [if_true]
        rw [hj n l4 (oo d)]
        simp only [Option.bind_some, if_true]
        exact tail1 true
    · simp only [if_true]
      rw [hj n l4 (oi c)]
      simp only [Option.bind_some, if_true]
      exact tail1 true
  unfold backreachlaw11_SpanMeets.f
  rw [awake_eq 0]
  simp only [Option.bind_some, if_true]
  rw [m1, m2, j1, j2, hin, hon]
  simp only [Option.bind_some, bne_self_eq_false, beq_self_eq_true, Bool.not_true, Bool.or_self, Bool.false_eq_true, if_false]
  rw [hm]
  simp only [Option.bind_some]
  cases c : hasN (cw a0) (x0, x1) n
  · rw [c] at q jj
    simp only [Bool.false_and] at q
    simp only [Bool.false_eq_true, if_false]
    cases d : M.2
    · simp only [Bool.false_eq_true, if_false]
      exact jj
    · rw [d, Bool.true_and] at q
      simp only [if_true]
      rw [← q]
      exact jj
  · rw [c] at q jj
    simp only [Bool.true_and] at q
    simp only [if_true]
    cases d : M.2
    · rw [d, Bool.false_and] at q
      simp only [Bool.false_eq_true, if_false]
      rw [q]
      rw [q] at jj
      exact jj
    · rw [d, Bool.true_and] at q
      simp only [if_true]
      rw [← q]
      simp only [bne_self_eq_false]
      exact jj
end Go.Proofs.Ytidabafobpbniaa.Pure
