/- Known bits, the plain law: KnownMeets. -/
import Derived.Test.YtidabafobpbniaaDoorPureKA
import Derived.Test.YtidabafobpbniaaDoorPx17
namespace Go.Proofs.YtidabafobpbniaaDoor.Pure
open Go.RowKit Go.Proofs.YtidabafobpbniaaDoor.P Go.Proofs.YtidabafobpbniaaDoorW.PrintWords Go.Proofs.YtidabafobpbniaaDoorW.PrintLast Go.Proofs.YtidabafobpbniaaDoorW.PrintMore
set_option linter.unusedVariables false
set_option linter.unusedSimpArgs false

theorem join_commK (W : Nat) (x y : Nat × Nat) : joinK W y x = joinK W x y := by
  unfold joinK
  rw [Nat.and_comm, Nat.and_comm (rightK W y).2]
theorem join_selfK (W : Nat) (x : Nat × Nat) : joinK W x x = rightK W x := by
  unfold joinK
  rw [Nat.and_self, Nat.and_self]
theorem meet_commK (W : Nat) (x y : Nat × Nat) : meetK W y x = meetK W x y := by
  unfold meetK
  rw [Nat.or_comm (rightK W y).1, Nat.or_comm (rightK W y).2]
theorem meet_hasK {W : Nat} (hW : W ≤ 64) (x y : Nat × Nat) {n : Nat} (hn : n < 2 ^ 64) : (hasK W x n && hasK W y n) = ((meetK W x y).2 && hasK W (meetK W x y).1 n) := by
  have hx := right_okK W x
  have hy := right_okK W y
  have key : (Fits (rightK W x) n ∧ Fits (rightK W y) n) ↔ Fits ((rightK W x).1 ||| (rightK W y).1, (rightK W x).2 ||| (rightK W y).2) n := by
    unfold Fits
    constructor
    · intro q i
      simp only [Nat.testBit_or, Bool.or_eq_true]
      exact ⟨fun h => h.elim (q.1 i).1 (q.2 i).1, fun h => h.elim (q.1 i).2 (q.2 i).2⟩
    · intro q
      refine ⟨fun i => ?_, fun i => ?_⟩
      · have := q i
        simp only [Nat.testBit_or, Bool.or_eq_true] at this
        exact ⟨fun h => this.1 (.inl h), fun h => this.2 (.inl h)⟩
      · have := q i
        simp only [Nat.testBit_or, Bool.or_eq_true] at this
        exact ⟨fun h => this.1 (.inr h), fun h => this.2 (.inr h)⟩
  apply Bool.eq_iff_iff.2
  rw [Bool.and_eq_true, Bool.and_eq_true, hasK_iff hW _ hn, hasK_iff hW _ hn, hasK_iff hW _ hn, key]
  unfold meetK
  by_cases c : ((rightK W x).1 ||| (rightK W y).1) &&& ((rightK W x).2 ||| (rightK W y).2) = 0
  · rw [if_pos c]
    simp only [true_and]
    rw [right_ofK (show OkK W ((rightK W x).1 ||| (rightK W y).1, (rightK W x).2 ||| (rightK W y).2) from ⟨Nat.or_lt_two_pow hx.1 hy.1, Nat.or_lt_two_pow hx.2.1 hy.2.1, c⟩)]
  · rw [if_neg c]
    simp only [Bool.false_eq_true, false_and, iff_false]
    intro q
    apply c
    rw [and0_iff]
    intro i hi
    cases d : ((rightK W x).2 ||| (rightK W y).2).testBit i
    · rfl
    · have := (q i).1 hi
      rw [(q i).2 d] at this
      cases this
theorem join_hasK {W : Nat} (hW : W ≤ 64) (x y : Nat × Nat) {n : Nat} (hn : n < 2 ^ 64) (h : hasK W x n = true ∨ hasK W y n = true) : hasK W (joinK W x y) n = true := by
  rw [hasK_iff hW _ hn] at h ⊢
  rw [right_ofK (join_okK W x y)]
  rw [hasK_iff hW _ hn] at h
  rcases h with h | h
  · exact fits_sub (join_sub W x y).1 h
  · exact fits_sub (join_sub W x y).2 h
theorem KnownMeets_row (a0 : Int) (a1_0 a1_1 : Int) (a2_0 a2_1 : Int) (a3 : Int) (h0_ : (Lit.int .i64 a0).wf = true) (h1_ : (Lit.int .u64 a1_0).wf = true) (h2_ : (Lit.int .u64 a1_1).wf = true) (h3_ : (Lit.int .u64 a2_0).wf = true) (h4_ : (Lit.int .u64 a2_1).wf = true) (h5_ : (Lit.int .u64 a3).wf = true) : ∃ k, backreachlaw12_KnownMeets.f k a0 a1_0 a1_1 a2_0 a2_1 a3 = some true := by
  obtain ⟨x0, rfl, l0⟩ := nat_of_wf h1_
  obtain ⟨x1, rfl, l1⟩ := nat_of_wf h2_
  obtain ⟨y0, rfl, l2⟩ := nat_of_wf h3_
  obtain ⟨y1, rfl, l3⟩ := nat_of_wf h4_
  obtain ⟨n, rfl, l4⟩ := nat_of_wf h5_
  have hr := cw_range a0
  refine ⟨12, ?_⟩
  have m1 := meet_eqK a0 (x0, x1) (y0, y1) l0 l1 l2 l3
  have m2 := meet_eqK a0 (y0, y1) (x0, x1) l2 l3 l0 l1
  rw [meet_commK] at m2
  have j1 := join_eqK a0 (x0, x1) (y0, y1) l0 l1 l2 l3
  have j2 := join_eqK a0 (y0, y1) (x0, x1) l2 l3 l0 l1
  have j3 := join_eqK a0 (x0, x1) (x0, x1) l0 l1 l0 l1
  rw [join_commK] at j2
  rw [join_selfK] at j3
  have r1 := kright_eq a0 (x0, x1) l0 l1
  have q := meet_hasK hr.2 (x0, x1) (y0, y1) l4
  have jh := join_hasK hr.2 (x0, x1) (y0, y1) l4
  simp only at m1 m2 j1 j2 j3 r1
  have hin := has_eqK a0 (x0, x1) n l0 l1 l4
  have hon := has_eqK a0 (y0, y1) n l2 l3 l4
  simp only at hin hon
  have oJ := ok_lt64 hr.2 (join_okK (cw a0) (x0, x1) (y0, y1))
  have hj := has_eqK a0 (joinK (cw a0) (x0, x1) (y0, y1)) n oJ.1 oJ.2 l4
  generalize joinK (cw a0) (x0, x1) (y0, y1) = J at *
  have oM : (meetK (cw a0) (x0, x1) (y0, y1)).1.1 < 2 ^ 64 ∧ (meetK (cw a0) (x0, x1) (y0, y1)).1.2 < 2 ^ 64 := by
    have hx := ok_lt64 hr.2 (right_okK (cw a0) (x0, x1))
    have hy := ok_lt64 hr.2 (right_okK (cw a0) (y0, y1))
    unfold meetK
    split
    · exact ⟨Nat.or_lt_two_pow hx.1 hy.1, Nat.or_lt_two_pow hx.2 hy.2⟩
    · exact ⟨by decide, by decide⟩
  have hm := has_eqK a0 (meetK (cw a0) (x0, x1) (y0, y1)).1 n oM.1 oM.2 l4
  generalize meetK (cw a0) (x0, x1) (y0, y1) = M at *
  have tail : ((known_Join.f a0 (x0 : Int) (x1 : Int) (x0 : Int) (x1 : Int)).bind fun bt255 => ((known_Right.f a0 (x0 : Int) (x1 : Int)).bind fun bt257 => (some (bt255.1 == bt257.1 && (bt255.2 == bt257.2))))) = some true := by
    rw [j3, r1]
    simp
  have jj : backreachlaw12_KnownMeets.j0 12 a0 (n : Int) (hasK (cw a0) (x0, x1) n) (hasK (cw a0) (y0, y1) n) false (x0 : Int) (x1 : Int) (KZ J).1 (KZ J).2 = some true := by
    simp only [backreachlaw12_KnownMeets.j0, Bool.false_eq_true, if_false]
    cases c : hasK (cw a0) (x0, x1) n
    · simp only [Bool.false_eq_true, if_false]
      cases d : hasK (cw a0) (y0, y1) n
      · simp only [Bool.false_eq_true, if_false]
        exact tail
      · simp only [if_true]
        rw [jh (.inr d)] at hj
        rw [show known_Has.f a0 (KZ J).1 (KZ J).2 (n : Int) = some true from hj]
        simp only [Option.bind_some, if_true]
        exact tail
    · simp only [if_true]
      rw [jh (.inl c)] at hj
      rw [show known_Has.f a0 (KZ J).1 (KZ J).2 (n : Int) = some true from hj]
      simp only [Option.bind_some, if_true]
      exact tail
  unfold backreachlaw12_KnownMeets.f
  rw [awake_eqK 0]
  simp only [Option.bind_some, if_true]
  rw [m1, m2, j1, j2, hin, hon]
  simp only [Option.bind_some, bne_self_eq_false, beq_self_eq_true, Bool.not_true, Bool.or_self, Bool.false_eq_true, if_false]
  rw [hm]
  simp only [Option.bind_some]
  cases c : hasK (cw a0) (x0, x1) n
  · rw [c] at q jj
    simp only [Bool.false_and] at q
    simp only [Bool.false_eq_true, if_false]
    cases d : M.2
    · simp only [Bool.false_eq_true, if_false]
      exact jj
    · rw [d, Bool.true_and] at q
      simp only [if_true]
      rw [← q]
      exact jj
  · rw [c] at q jj
    simp only [Bool.true_and] at q
    simp only [if_true]
    cases d : M.2
    · rw [d, Bool.false_and] at q
      simp only [Bool.false_eq_true, if_false]
      rw [q]
      rw [q] at jj
      exact jj
    · rw [d, Bool.true_and] at q
      simp only [if_true]
      rw [← q]
      simp only [bne_self_eq_false]
      exact jj
end Go.Proofs.YtidabafobpbniaaDoor.Pure
