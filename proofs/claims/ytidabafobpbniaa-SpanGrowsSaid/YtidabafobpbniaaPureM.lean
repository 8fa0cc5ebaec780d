/- Spans, the plain law: what span.Apply comes to, of natural numbers. -/
import Derived.Test.YtidabafobpbniaaPureL
import Derived.Test.YtidabafobpbniaaPx11
namespace Go.Proofs.Ytidabafobpbniaa.Pure
open Go.RowKit Go.Proofs.Ytidabafobpbniaa.P Go.Proofs.YtidabafobpbniaaW.PrintWords Go.Proofs.YtidabafobpbniaaW.PrintLast Go.Proofs.YtidabafobpbniaaW.PrintMore
set_option linter.unusedVariables false
set_option linter.unusedSimpArgs false

theorem lenN_gt {n k : Nat} (h : 2 ^ k ≤ n) : k < lenN n := by
  by_cases c : k < lenN n
  · exact c
  · have := lenN_lt n
    have := Nat.pow_le_pow_right (n := 2) (by decide) (show lenN n ≤ k by omega)
    omega
theorem bitLen_eq (f : Nat) : ∀ x : Nat, x < 2 ^ f → Lib.bitLenAux f x = lenN x := by
  induction f with
  | zero => intro x hx; have : x = 0 := by simpa using hx
            subst this; rfl
  | succ f ih =>
    intro x hx
    unfold Lib.bitLenAux
    by_cases z : x = 0
    · rw [if_pos z, z]; rfl
    · rw [if_neg z, ih (x / 2) (by rw [Nat.pow_succ] at hx; omega)]
      have h1 := lenN_lt (x / 2)
      have a : lenN x ≤ 1 + lenN (x / 2) := lenN_le (by rw [Nat.add_comm, Nat.pow_succ]; omega)
      have b : lenN (x / 2) < lenN x := by
        by_cases y : x / 2 = 0
        · have e : lenN (x / 2) = 0 := by rw [y]; rfl
          rw [e]
          exact lenN_gt (by simp; omega)
        · have p : 0 < lenN (x / 2) := lenN_gt (by simp; omega)
          have q : 2 ^ (lenN (x / 2) - 1) ≤ x / 2 := by
            by_cases c : 2 ^ (lenN (x / 2) - 1) ≤ x / 2
            · exact c
            · have := lenN_le (show x / 2 < 2 ^ (lenN (x / 2) - 1) by omega); omega
          have := half_split (lenN (x / 2)) p
          exact lenN_gt (by omega)
      omega
theorem len64_eq (x : Nat) (hx : x < 2 ^ 64) : bits_Len64.f (x : Int) = some (lenN x : Int) := by
  unfold bits_Len64.f
  rw [if_pos (by omega), Int.toNat_natCast]
  have : Lib.bitLen x = lenN x := bitLen_eq 64 x hx
  rw [this]
theorem full_eq (x y : Nat) (hx : x < 2 ^ 64) (hy : y < 2 ^ 64) : span_full.f (x : Int) (y : Int) = some (fullN x y : Int) := by
  have hl : lenN (max x y) ≤ 64 := lenN_le (by omega)
  unfold span_full.f fullN
  rw [mx_nat, len64_eq _ (by omega)]
  simp only [Option.bind_some]
  by_cases c : lenN (max x y) = 0
  · rw [if_pos (by omega), c]; rfl
  · rw [if_neg (by omega)]
    have e : wrap64 (64 - (lenN (max x y) : Int)) = ((64 - lenN (max x y) : Nat) : Int) := by unfold wrap64; omega
    rw [e, if_pos (Int.natCast_nonneg _)]
    have := shr_nat (2 ^ 64 - 1) (64 - lenN (max x y)) (by omega)
    rw [mask_div _ hl] at this
    exact congrArg some this

section
variable {w : Int} {x y : Nat × Nat}
theorem ok_lt (h : Ok (cw w) x) : x.1 < 2 ^ cw w ∧ x.2 < 2 ^ cw w ∧ x.1 < 2 ^ 64 ∧ x.2 < 2 ^ 64 := by
  have hr := cw_range w
  have hp := pow_le64 hr.2
  have h0 : 0 < 2 ^ cw w := Nat.two_pow_pos _
  unfold Ok at h
  omega
theorem bz (p : Int × Int) : (some p).bind (fun bt => some (bt.1, bt.2)) = some p := rfl
theorem divided11 (k : Nat) (hx : Ok (cw w) x) (hy : Ok (cw w) y) : span_divided.f (k + 1) 11 w (x.1 : Int) (x.2 : Int) (y.1 : Int) (y.2 : Int) = some (ZZ (tableN 11 (cw w) x y)) := by
  have lx := ok_lt hx
  have ly := ok_lt hy
  unfold Ok at hy
  unfold span_divided.f
  simp only [if_true, span_divided.j0]
  simp only [tableN, show ¬ (11 : Int) = 5 by decide, show ¬ (11 : Int) = 8 by decide, show ¬ (11 : Int) = 9 by decide, show ¬ (11 : Int) = 10 by decide, if_false, if_true]
  by_cases c : y.1 = 0
  · rw [c, whole_eq]; rfl
  · have c1 : ((y.1 : Int) == 0) = false := beq_eq_false_iff_ne.mpr (by omega)
    rw [c1, if_neg (by decide), if_neg (by omega), if_neg (by omega), if_neg c]
    have e1 : Int.tdiv (x.1 : Int) (y.2 : Int) = ((x.1 / y.2 : Nat) : Int) := rfl
    have e2 : Int.tdiv (x.2 : Int) (y.1 : Int) = ((x.2 / y.1 : Nat) : Int) := rfl
    have d1 : x.1 / y.2 ≤ x.1 := Nat.div_le_self _ _
    have d2 : x.2 / y.1 ≤ x.2 := Nat.div_le_self _ _
    rw [e1, e2, u64_small (Int.natCast_nonneg _) (by generalize x.1 / y.2 = q at d1; omega), u64_small (Int.natCast_nonneg _) (by generalize x.2 / y.1 = q at d2; omega)]
    rfl
theorem divided12 (k : Nat) (hx : Ok (cw w) x) (hy : Ok (cw w) y) : span_divided.f (k + 1) 12 w (x.1 : Int) (x.2 : Int) (y.1 : Int) (y.2 : Int) = some (ZZ (tableN 12 (cw w) x y)) := by
  have lx := ok_lt hx
  have ly := ok_lt hy
  unfold Ok at hy
  unfold span_divided.f
  simp only [show ¬ (12 : Int) = 11 by decide, if_false, span_divided.j0, Bool.false_eq_true]
  simp only [tableN, show ¬ (12 : Int) = 5 by decide, show ¬ (12 : Int) = 8 by decide, show ¬ (12 : Int) = 9 by decide, show ¬ (12 : Int) = 10 by decide, show ¬ (12 : Int) = 11 by decide, if_false, if_true]
  by_cases c : x.2 < y.1
  · rw [if_pos (by omega), if_pos c]; rfl
  · rw [if_neg (by omega), if_neg c]
    by_cases d : y.1 = 0
    · rw [if_pos (by omega), if_pos d]; rfl
    · rw [if_neg (by omega), if_neg d, u64_small (by omega) (by omega), show ((y.2 : Int) - 1) = ((y.2 - 1 : Nat) : Int) by omega, mn_nat]; rfl
theorem below_eq (hx : Ok (cw w) x) (hy : Ok (cw w) y) : span_below.f w (x.1 : Int) (x.2 : Int) (y.1 : Int) (y.2 : Int) = some (ZZ (belowN (2 ^ (cw w - 1)) x y)) := by
  have hr := cw_range w
  have hp := pow_le64 hr.2
  have hh := half_split (cw w) hr.1
  have h0 : 0 < 2 ^ (cw w - 1) := Nat.two_pow_pos _
  unfold span_below.f
  rw [mask_eq]
  simp only [Option.bind_some]
  have e1 : Int.tdiv ((2 ^ cw w - 1 : Nat) : Int) 2 = (((2 ^ cw w - 1) / 2 : Nat) : Int) := rfl
  rw [e1, hh]
  generalize 2 ^ (cw w - 1) = T at *
  rw [u64_small (n := (((2 * T - 1) / 2 : Nat) : Int)) (by omega) (by omega), u64_small (by omega) (by omega), show (((2 * T - 1 : Nat) : Int) - (((2 * T - 1) / 2 : Nat) : Int)) = (T : Int) by omega]
  unfold span_below_at belowN
  have dd : ∀ a b : Nat, decide ((a : Int) < (b : Int)) = decide (a < b) := fun a b => by congr 1; exact propext ⟨fun h => by omega, fun h => by omega⟩
  have dl : ∀ a b : Nat, decide ((a : Int) ≤ (b : Int)) = decide (a ≤ b) := fun a b => by congr 1; exact propext ⟨fun h => by omega, fun h => by omega⟩
  simp only [dd, dl, truth_eq, Bool.and_eq_true, decide_eq_true_eq]
  split
  · rfl
  · split <;> rfl
theorem added_eq (a b : Nat) (ha : a < 2 ^ cw w) (hb : b < 2 ^ cw w) : span_added.f w (a : Int) (b : Int) = some ((((a + b) % 2 ^ cw w : Nat) : Int), if 2 ^ cw w ≤ a + b then 1 else 0) := by
  have hr := cw_range w
  have hp := pow_le64 hr.2
  have h0 : 0 < 2 ^ cw w := Nat.two_pow_pos _
  unfold span_added.f
  rw [if_pos (by omega)]
  have e : ((a : Int) + (b : Int)) % 18446744073709551616 = (((a + b) % 2 ^ 64 : Nat) : Int) := by omega
  rw [e, cut_eq w _ (Nat.mod_lt _ (by decide)), mask_eq, mod_mod64 hr.2]
  simp only [Option.bind_some]
  by_cases c : 2 ^ 64 ≤ a + b
  · rw [if_pos (by omega), if_pos (by omega)]
  · rw [if_neg (by omega), Nat.mod_eq_of_lt (show a + b < 2 ^ 64 by omega)]
    by_cases d : 2 ^ cw w ≤ a + b
    · rw [if_pos (by omega), if_pos d]
    · rw [if_neg (by omega), if_neg d, Nat.mod_eq_of_lt (by omega)]
theorem taken_eq (a b : Nat) (ha : a < 2 ^ cw w) (hb : b < 2 ^ cw w) : span_taken.f w (a : Int) (b : Int) = some ((((a + (2 ^ cw w - b)) % 2 ^ cw w : Nat) : Int), if a < b then 1 else 0) := by
  have hr := cw_range w
  have hp := pow_le64 hr.2
  have h0 : 0 < 2 ^ cw w := Nat.two_pow_pos _
  unfold span_taken.f
  by_cases c : a < b
  · rw [if_pos (by omega), if_pos c]
    have e : IntKind.u64.wrap ((a : Int) - (b : Int)) = ((a + (2 ^ 64 - b) : Nat) : Int) := by rw [u64_wrap]; omega
    rw [e, cut_eq w _ (by omega)]
    simp only [Option.bind_some]
    rw [all_split hr.2 b (by omega), ← Nat.add_assoc, Nat.add_mul_mod_self_left]
  · rw [if_neg (by omega), if_neg c, u64_small (by omega) (by omega)]
    congr 2
    rw [Nat.mod_eq_sub_mod (by omega), Nat.mod_eq_of_lt (by omega)]
    omega
theorem add_eq (hx : Ok (cw w) x) (hy : Ok (cw w) y) : span_add.f w (x.1 : Int) (x.2 : Int) (y.1 : Int) (y.2 : Int) = some (ZZ (tableN 8 (cw w) x y)) := by
  have lx := ok_lt hx
  have ly := ok_lt hy
  unfold span_add.f
  rw [added_eq _ _ lx.1 ly.1, added_eq _ _ lx.2.1 ly.2.1]
  simp only [Option.bind_some]
  simp only [tableN, show ¬ (8 : Int) = 5 by decide, if_false, if_true]
  by_cases c : (2 ^ cw w ≤ x.1 + y.1 ↔ 2 ^ cw w ≤ x.2 + y.2)
  · rw [if_pos c, if_pos (by by_cases d : 2 ^ cw w ≤ x.1 + y.1
                             · rw [if_pos d, if_pos (c.1 d)]
                             · rw [if_neg d, if_neg (fun h => d (c.2 h))])]
    exact sright_eq w (_, _)
  · rw [if_neg c, if_neg (by by_cases d : 2 ^ cw w ≤ x.1 + y.1 <;> by_cases e : 2 ^ cw w ≤ x.2 + y.2 <;> simp [d, e] at c ⊢)]
    exact whole_eq w
theorem take_eq (hx : Ok (cw w) x) (hy : Ok (cw w) y) : span_take.f w (x.1 : Int) (x.2 : Int) (y.1 : Int) (y.2 : Int) = some (ZZ (tableN 9 (cw w) x y)) := by
  have lx := ok_lt hx
  have ly := ok_lt hy
  unfold span_take.f
  rw [taken_eq _ _ lx.1 ly.2.1, taken_eq _ _ lx.2.1 ly.1]
  simp only [Option.bind_some]
  simp only [tableN, show ¬ (9 : Int) = 5 by decide, show ¬ (9 : Int) = 8 by decide, if_false, if_true]
  by_cases c : (x.1 < y.2 ↔ x.2 < y.1)
  · rw [if_pos c, if_pos (by by_cases d : x.1 < y.2
                             · rw [if_pos d, if_pos (c.1 d)]
                             · rw [if_neg d, if_neg (fun h => d (c.2 h))])]
    exact sright_eq w (_, _)
  · rw [if_neg c, if_neg (by by_cases d : x.1 < y.2 <;> by_cases e : x.2 < y.1 <;> simp [d, e] at c ⊢)]
    exact whole_eq w
theorem down_eq (a b : Nat) (ha : a < 2 ^ cw w) (hb : b < 2 ^ cw w) : span_down.f w (a : Int) (b : Int) = some ((downN (cw w) a b : Nat) : Int) := by
  have hr := cw_range w
  have hp := pow_le64 hr.2
  unfold span_down.f
  rw [apply_eq 17 w a b (by omega) (by omega), Nat.mod_eq_of_lt ha, Nat.mod_eq_of_lt hb]
  simp [applyN, downN]
theorem moved_eq (hw : w = (cw w : Int)) (k : Nat) {op : Int} (ho : op = 16 ∨ op = 17 ∨ op = 18) (hx : Ok (cw w) x) (hy : Ok (cw w) y) : span_moved.f (k + 1) op w (x.1 : Int) (x.2 : Int) (y.1 : Int) (y.2 : Int) = some (ZZ (tableN op (cw w) x y)) := by
  have hr := cw_range w
  have hp := pow_le64 hr.2
  have hh := half_split (cw w) hr.1
  have h0 : 0 < 2 ^ (cw w - 1) := Nat.two_pow_pos _
  have lx := ok_lt hx
  have ly := ok_lt hy
  have j : span_moved.j0 (k + 1) w (x.1 : Int) (x.2 : Int) (y.1 : Int) (y.2 : Int) = some (ZZ (downN (cw w) x.1 y.2, downN (cw w) x.2 y.1)) := by
    simp only [span_moved.j0]
    rw [down_eq _ _ lx.1 ly.2.1, down_eq _ _ lx.2.1 ly.1]
    rfl
  unfold span_moved.f
  rw [j, whole_eq, mask_eq]
  unfold Ok at hx hy
  rcases ho with rfl | rfl | rfl
  · simp only [if_true, Option.bind_some]
    have wW : IntKind.u64.wrap w = (cw w : Int) := by
      have : IntKind.u64.wrap (cw w : Int) = (cw w : Int) := u64_small (by omega) (by omega)
      rw [← hw] at this
      exact this.trans hw
    rw [wW]
    simp only [tableN]
    simp only [show ¬ (16 : Int) = 5 by decide, show ¬ (16 : Int) = 8 by decide, show ¬ (16 : Int) = 9 by decide, show ¬ (16 : Int) = 10 by decide, show ¬ (16 : Int) = 11 by decide, show ¬ (16 : Int) = 12 by decide, show ¬ (16 : Int) = 13 by decide, show ¬ (16 : Int) = 14 by decide, show ¬ (16 : Int) = 15 by decide, show ¬ (16 : Int) = 19 by decide, show ¬ (16 : Int) = 20 by decide, show ¬ (16 : Int) = 21 by decide, if_false, if_true]
    by_cases c : y.2 < cw w
    · rw [if_pos (by omega), if_pos (Int.natCast_nonneg _)]
      have p1 : (2 : Nat) ^ y.2 < 2 ^ 64 := Nat.pow_lt_pow_right (by decide) (by omega)
      have s1 : shl .u64 1 (y.2 : Int) = ((2 ^ y.2 : Nat) : Int) := by
        have := shl_nat 1 y.2 (by omega)
        rw [Nat.one_mul, Nat.mod_eq_of_lt p1] at this
        exact this
      rw [s1, times_eq w _ _ lx.2.2.2 p1]
      simp only [Option.bind_some]
      by_cases d : x.2 * 2 ^ y.2 < 2 ^ cw w
      · rw [if_pos (decide_eq_true d), if_pos (Int.natCast_nonneg _), if_pos ⟨c, d⟩, shl_nat _ _ (by omega)]
        have u1 : x.1 * 2 ^ y.1 ≤ x.2 * 2 ^ y.2 := Nat.mul_le_mul hx.1 (Nat.pow_le_pow_right (by decide) hy.1)
        rw [Nat.mod_eq_of_lt (by omega), Nat.mod_eq_of_lt (by omega)]
        rfl
      · rw [if_neg (by simpa using d), if_neg (fun h => d h.2)]
    · rw [if_neg (by omega), if_neg (fun h => c h.1)]
  · simp [tableN]
  · simp only [show ¬ (18 : Int) = 16 by decide, if_false, if_true, Option.bind_some]
    have e1 : Int.tdiv ((2 ^ cw w - 1 : Nat) : Int) 2 = (((2 ^ cw w - 1) / 2 : Nat) : Int) := rfl
    rw [e1, u64_small (by omega) (by omega)]
    simp only [tableN]
    simp only [show ¬ (18 : Int) = 5 by decide, show ¬ (18 : Int) = 8 by decide, show ¬ (18 : Int) = 9 by decide, show ¬ (18 : Int) = 10 by decide, show ¬ (18 : Int) = 11 by decide, show ¬ (18 : Int) = 12 by decide, show ¬ (18 : Int) = 13 by decide, show ¬ (18 : Int) = 14 by decide, show ¬ (18 : Int) = 15 by decide, show ¬ (18 : Int) = 16 by decide, show ¬ (18 : Int) = 19 by decide, show ¬ (18 : Int) = 20 by decide, show ¬ (18 : Int) = 21 by decide, if_false, true_and]
    by_cases c : 2 ^ (cw w - 1) ≤ x.2
    · rw [if_pos (by omega), if_pos c]
    · rw [if_neg (by omega), if_neg c]
theorem table_eq (hw : w = (cw w : Int)) (k : Nat) {op : Int} (ho : isOp op) (hx : Ok (cw w) x) (hy : Ok (cw w) y) : span_table.f (k + 3) op w (x.1 : Int) (x.2 : Int) (y.1 : Int) (y.2 : Int) = some (ZZ (tableN op (cw w) x y)) := by
  have hr := cw_range w
  have hp := pow_le64 hr.2
  have lx := ok_lt hx
  have ly := ok_lt hy
  have dd : ∀ a b : Nat, decide ((a : Int) < (b : Int)) = decide (a < b) := fun a b => by congr 1; exact propext ⟨fun h => by omega, fun h => by omega⟩
  have dl : ∀ a b : Nat, decide ((a : Int) ≥ (b : Int)) = decide (b ≤ a) := fun a b => by congr 1; exact propext ⟨fun h => by omega, fun h => by omega⟩
  unfold span_table.f
  rcases op_cases ho with rfl | rfl | rfl | rfl | rfl | rfl | rfl | rfl | rfl | rfl | rfl | rfl | rfl | rfl | rfl
  · simp only [show ¬ (5 : Int) = 8 by decide, show ¬ (5 : Int) = 9 by decide, if_false, span_tableP.f, if_true]
    rw [mask_eq]
    simp only [Option.bind_some, tableN, if_true]
    unfold Ok at hx
    rw [u64_small (by omega) (by omega), u64_small (by omega) (by omega)]
    unfold ZZ
    simp only
    congr 2 <;> omega
  · simp only [if_true]
    exact add_eq hx hy
  · simp only [show ¬ (9 : Int) = 8 by decide, if_false, if_true]
    exact take_eq hx hy
  · simp only [show ¬ (10 : Int) = 8 by decide, show ¬ (10 : Int) = 9 by decide, show ¬ (10 : Int) = 5 by decide, if_false, span_tableP.f, if_true]
    rw [times_eq w _ _ lx.2.2.2 ly.2.2.2, whole_eq]
    simp only [Option.bind_some]
    simp only [tableN, show ¬ (10 : Int) = 5 by decide, show ¬ (10 : Int) = 8 by decide, show ¬ (10 : Int) = 9 by decide, if_false, if_true]
    by_cases c : x.2 * y.2 < 2 ^ cw w
    · rw [if_pos c, if_pos (decide_eq_true c), ← Int.natCast_mul, u64_nat]
      unfold Ok at hx hy
      have u1 : x.1 * y.1 ≤ x.2 * y.2 := Nat.mul_le_mul hx.1 hy.1
      rw [Nat.mod_eq_of_lt (by omega), Nat.mod_eq_of_lt (by omega)]
      rfl
    · rw [if_neg c, if_neg (by simpa using c)]
  · simp only [show ¬ (11 : Int) = 8 by decide, show ¬ (11 : Int) = 9 by decide, show ¬ (11 : Int) = 5 by decide, show ¬ (11 : Int) = 10 by decide, if_false, span_tableP.f, if_true, span_tableP.j0, beq_self_eq_true]
    rw [divided11 _ hx hy]
    rfl
  · simp only [show ¬ (12 : Int) = 8 by decide, show ¬ (12 : Int) = 9 by decide, show ¬ (12 : Int) = 5 by decide, show ¬ (12 : Int) = 10 by decide, show ¬ (12 : Int) = 11 by decide, if_false, span_tableP.f, if_true, span_tableP.j0, beq_self_eq_true]
    rw [divided12 _ hx hy]
    rfl
  · simp only [show ¬ (13 : Int) = 8 by decide, show ¬ (13 : Int) = 9 by decide, show ¬ (13 : Int) = 5 by decide, show ¬ (13 : Int) = 10 by decide, show ¬ (13 : Int) = 11 by decide, if_false, span_tableP.f, span_tableP.j0, show ((13 : Int) == 12) = false by decide, Bool.false_eq_true, if_true, mn_nat]
    simp [tableN, ZZ]
  · simp only [show ¬ (14 : Int) = 8 by decide, show ¬ (14 : Int) = 9 by decide, show ¬ (14 : Int) = 5 by decide, show ¬ (14 : Int) = 10 by decide, show ¬ (14 : Int) = 11 by decide, show ¬ (14 : Int) = 13 by decide, if_false, span_tableP.f, span_tableP.j0, show ((14 : Int) == 12) = false by decide, Bool.false_eq_true, if_true, mx_nat]
    rw [full_eq _ _ lx.2.2.2 ly.2.2.2]
    simp only [Option.bind_some]
    simp [tableN, ZZ]
  · simp only [show ¬ (15 : Int) = 8 by decide, show ¬ (15 : Int) = 9 by decide, show ¬ (15 : Int) = 5 by decide, show ¬ (15 : Int) = 10 by decide, show ¬ (15 : Int) = 11 by decide, show ¬ (15 : Int) = 13 by decide, show ¬ (15 : Int) = 14 by decide, if_false, span_tableP.f, span_tableP.j0, show ((15 : Int) == 12) = false by decide, Bool.false_eq_true, if_true]
    rw [full_eq _ _ lx.2.2.2 ly.2.2.2]
    simp only [Option.bind_some]
    simp [tableN, ZZ]
  · simp only [show ¬ (16 : Int) = 8 by decide, show ¬ (16 : Int) = 9 by decide, show ¬ (16 : Int) = 5 by decide, show ¬ (16 : Int) = 10 by decide, show ¬ (16 : Int) = 11 by decide, show ¬ (16 : Int) = 13 by decide, show ¬ (16 : Int) = 14 by decide, show ¬ (16 : Int) = 15 by decide, show ¬ (16 : Int) = 19 by decide, show ¬ (16 : Int) = 20 by decide, show ¬ (16 : Int) = 21 by decide, if_false, span_tableP.f, span_tableP.j0, show ((16 : Int) == 12) = false by decide, Bool.false_eq_true]
    rw [moved_eq hw _ (.inl rfl) hx hy]
    rfl
  · simp only [show ¬ (17 : Int) = 8 by decide, show ¬ (17 : Int) = 9 by decide, show ¬ (17 : Int) = 5 by decide, show ¬ (17 : Int) = 10 by decide, show ¬ (17 : Int) = 11 by decide, show ¬ (17 : Int) = 13 by decide, show ¬ (17 : Int) = 14 by decide, show ¬ (17 : Int) = 15 by decide, show ¬ (17 : Int) = 19 by decide, show ¬ (17 : Int) = 20 by decide, show ¬ (17 : Int) = 21 by decide, if_false, span_tableP.f, span_tableP.j0, show ((17 : Int) == 12) = false by decide, Bool.false_eq_true]
    rw [moved_eq hw _ (.inr (.inl rfl)) hx hy]
    rfl
  · simp only [show ¬ (18 : Int) = 8 by decide, show ¬ (18 : Int) = 9 by decide, show ¬ (18 : Int) = 5 by decide, show ¬ (18 : Int) = 10 by decide, show ¬ (18 : Int) = 11 by decide, show ¬ (18 : Int) = 13 by decide, show ¬ (18 : Int) = 14 by decide, show ¬ (18 : Int) = 15 by decide, show ¬ (18 : Int) = 19 by decide, show ¬ (18 : Int) = 20 by decide, show ¬ (18 : Int) = 21 by decide, if_false, span_tableP.f, span_tableP.j0, show ((18 : Int) == 12) = false by decide, Bool.false_eq_true]
    rw [moved_eq hw _ (.inr (.inr rfl)) hx hy]
    rfl
  · simp only [show ¬ (19 : Int) = 8 by decide, show ¬ (19 : Int) = 9 by decide, show ¬ (19 : Int) = 5 by decide, show ¬ (19 : Int) = 10 by decide, show ¬ (19 : Int) = 11 by decide, show ¬ (19 : Int) = 13 by decide, show ¬ (19 : Int) = 14 by decide, show ¬ (19 : Int) = 15 by decide, if_false, span_tableP.f, span_tableP.j0, show ((19 : Int) == 12) = false by decide, Bool.false_eq_true, if_true, dd, truth_eq, bz]
    simp [tableN]
    by_cases c : x.2 < y.1
    · simp [c]
    · simp [c]
  · simp only [show ¬ (20 : Int) = 8 by decide, show ¬ (20 : Int) = 9 by decide, show ¬ (20 : Int) = 5 by decide, show ¬ (20 : Int) = 10 by decide, show ¬ (20 : Int) = 11 by decide, show ¬ (20 : Int) = 13 by decide, show ¬ (20 : Int) = 14 by decide, show ¬ (20 : Int) = 15 by decide, show ¬ (20 : Int) = 19 by decide, if_false, span_tableP.f, span_tableP.j0, show ((20 : Int) == 12) = false by decide, Bool.false_eq_true, if_true, dd, dl, truth_eq, bz]
    simp [tableN]
  · simp only [show ¬ (21 : Int) = 8 by decide, show ¬ (21 : Int) = 9 by decide, show ¬ (21 : Int) = 5 by decide, show ¬ (21 : Int) = 10 by decide, show ¬ (21 : Int) = 11 by decide, show ¬ (21 : Int) = 13 by decide, show ¬ (21 : Int) = 14 by decide, show ¬ (21 : Int) = 15 by decide, show ¬ (21 : Int) = 19 by decide, show ¬ (21 : Int) = 20 by decide, if_false, span_tableP.f, span_tableP.j0, show ((21 : Int) == 12) = false by decide, Bool.false_eq_true, if_true]
    rw [below_eq hx hy, bz]
    simp [tableN]
end
/-- What span.Apply answers, of spans that are right. -/
def sapplyN (op : Int) (W : Nat) (x y : Nat × Nat) : Nat × Nat :=
  if isOp op then (if x.1 = x.2 ∧ (op = 5 ∨ y.1 = y.2) then (applyN op W x.1 y.1, applyN op W x.1 y.1) else tableN op W x y) else (0, 0)
theorem sapply_eq (k : Nat) (op w : Int) (x y : Nat × Nat) : span_Apply.f (k + 5) op w (x.1 : Int) (x.2 : Int) (y.1 : Int) (y.2 : Int) = some (ZZ (sapplyN op (cw w) (rightN (cw w) x) (rightN (cw w) y))) := by
  have hr := cw_range w
  have e : mx 1 (mn w 64) = (cw w : Int) := by unfold mx mn cw; omega
  have hx := right_ok (cw w) x
  have hy := right_ok (cw w) y
  unfold span_Apply.f
  rw [e, sright_eq, sright_eq, cw_cw]
  simp only [Option.bind_some]
  generalize rightN (cw w) x = X at *
  generalize rightN (cw w) y = Y at *
  have hX : Ok (cw (cw w : Int)) X := by rw [cw_cw]; exact hx
  have hY : Ok (cw (cw w : Int)) Y := by rw [cw_cw]; exact hy
  have lX := ok_lt hX
  have lY := ok_lt hY
  rw [cw_cw] at lX lY
  have bad : span_Apply.j0 (k + 5) op (cw w : Int) true (ZZ X).1 (ZZ X).2 (ZZ Y).1 (ZZ Y).2 = some (0, 0) := by
    simp [span_Apply.j0, span_point.f]
  have good : isOp op → span_Apply.j0 (k + 5) op (cw w : Int) false (ZZ X).1 (ZZ X).2 (ZZ Y).1 (ZZ Y).2 = some (ZZ (sapplyN op (cw w) X Y)) := by
    intro ho
    have j1t : span_Apply.j1 (k + 4) op (cw w : Int) true (ZZ X).1 (ZZ X).2 (ZZ Y).1 (ZZ Y).2 = some (ZZ (applyN op (cw w) X.1 Y.1, applyN op (cw w) X.1 Y.1)) := by
      simp only [span_Apply.j1, if_true, ZZ]
      rw [apply_eq op _ X.1 Y.1 lX.2.2.1 lY.2.2.1, cw_cw, Nat.mod_eq_of_lt lX.1, Nat.mod_eq_of_lt lY.1]
      rfl
    have j1f : span_Apply.j1 (k + 4) op (cw w : Int) false (ZZ X).1 (ZZ X).2 (ZZ Y).1 (ZZ Y).2 = some (ZZ (tableN op (cw w) X Y)) := by
      simp only [span_Apply.j1, Bool.false_eq_true, if_false]
      have := table_eq (w := (cw w : Int)) (by rw [cw_cw]) k ho hX hY
      rw [cw_cw] at this
      show (span_table.f (k + 3) op (cw w : Int) (X.1 : Int) (X.2 : Int) (Y.1 : Int) (Y.2 : Int)).bind _ = _
      rw [this, bz]
    simp only [span_Apply.j0, Bool.false_eq_true, if_false, span_point.f, Option.bind_some]
    unfold sapplyN
    rw [if_pos ho]
    have bx : ((ZZ X).1 == (ZZ X).1 && ((ZZ X).2 == (ZZ X).1)) = true ↔ X.1 = X.2 := by
      simp [ZZ]; omega
    have by_ : ((ZZ Y).1 == (ZZ Y).1 && ((ZZ Y).2 == (ZZ Y).1)) = decide (Y.1 = Y.2) := by
      apply Bool.eq_iff_iff.2
      simp [ZZ]; omega
    by_cases c : X.1 = X.2
    · rw [if_pos (bx.2 c)]
      by_cases d : op = 5
      · rw [if_pos d, if_pos ⟨c, .inl d⟩, j1t]
      · rw [if_neg d, by_]
        by_cases f : Y.1 = Y.2
        · rw [decide_eq_true f, if_pos ⟨c, .inr f⟩, j1t]
        · rw [decide_eq_false f, if_neg (fun h => h.2.elim d f), j1f]
    · rw [if_neg (fun h => c (bx.1 h)), if_neg (fun h => c h.1), j1f]
  by_cases o1 : op < 5
  · rw [if_pos o1, bad]; unfold sapplyN; rw [if_neg (by unfold isOp; omega)]; rfl
  · rw [if_neg o1]
    by_cases o2 : op > 21
    · rw [if_pos o2, bad]; unfold sapplyN; rw [if_neg (by unfold isOp; omega)]; rfl
    · rw [if_neg o2]
      by_cases o3 : op = 6
      · rw [if_pos o3, bad]; unfold sapplyN; rw [if_neg (by unfold isOp; omega)]; rfl
      · rw [if_neg o3]
        by_cases o4 : op = 7
        · rw [show (op == 7) = true from beq_iff_eq.mpr o4, bad]; unfold sapplyN; rw [if_neg (by unfold isOp; omega)]; rfl
        · rw [show (op == 7) = false from beq_eq_false_iff_ne.mpr o4]
          exact good (by unfold isOp; omega)
end Go.Proofs.Ytidabafobpbniaa.Pure
