/- Known bits, the plain law: what known.Apply comes to, of natural numbers. -/
import Derived.Test.YtidabafobpbniaaDoorPureK
import Derived.Test.YtidabafobpbniaaDoorPx10
namespace Go.Proofs.YtidabafobpbniaaDoor.Pure
open Go.RowKit Go.Proofs.YtidabafobpbniaaDoor.P Go.Proofs.YtidabafobpbniaaDoorW.PrintWords Go.Proofs.YtidabafobpbniaaDoorW.PrintLast Go.Proofs.YtidabafobpbniaaDoorW.PrintMore
set_option linter.unusedVariables false
set_option linter.unusedSimpArgs false

/-- A word, if all of it is known. -/
def numK (W : Nat) (b : Nat × Nat) : Nat × Bool := if (rightK W b).1 = 2 ^ W - 1 - (rightK W b).2 then ((rightK W b).2, true) else (0, false)
theorem num_eqK (w : Int) (b : Nat × Nat) (h1 : b.1 < 2 ^ 64) (h2 : b.2 < 2 ^ 64) : known_Num.f w (b.1 : Int) (b.2 : Int) = some (((numK (cw w) b).1 : Int), (numK (cw w) b).2) := by
  have hr := cw_range w
  have o := right_okK (cw w) b
  have ok := ok_lt64 hr.2 o
  unfold known_Num.f numK
  rw [kright_eq w b h1 h2]
  simp only [Option.bind_some]
  rw [show (KZ (rightK (cw w) b)).2 = (((rightK (cw w) b).2 : Nat) : Int) from rfl, of_eqK w _ ok.2]
  simp only [Option.bind_some, KZ, ofK, Nat.mod_eq_of_lt o.2.1]
  generalize 2 ^ cw w - 1 - (rightK (cw w) b).2 = m
  have key : (!(((rightK (cw w) b).1 : Int) == (m : Int)) || !(((rightK (cw w) b).2 : Int) == ((rightK (cw w) b).2 : Int))) = !decide ((rightK (cw w) b).1 = m) := by
    rw [beq_self_eq_true, Bool.not_true, Bool.or_false]
    congr 1
    apply Bool.eq_iff_iff.2
    rw [beq_iff_eq, decide_eq_true_eq]
    omega
  by_cases c : (rightK (cw w) b).1 = m
  · rw [decide_eq_true c] at key
    rw [if_pos c]
    exact if_neg (fun h => by rw [Bool.not_true] at key; exact absurd (key.symm.trans h) (by decide))
  · rw [decide_eq_false c] at key
    rw [if_neg c]
    exact if_pos key
/-- How many of the lowest bits are known. -/
def lowK (b : Nat × Nat) : Nat := Lib.ctz 64 ((2 ^ 64 - 1) ^^^ (b.1 ||| b.2))
theorem low_eqK (b : Nat × Nat) (w : Int) (h1 : b.1 < 2 ^ 64) (h2 : b.2 < 2 ^ 64) : known_wide_low.f (b.1 : Int) (b.2 : Int) w = some (lowK b : Int) := by
  have ea : known_wide_all.f (b.1 : Int) (b.2 : Int) w = some ((b.1 ||| b.2 : Nat) : Int) := by
    unfold known_wide_all.f
    rw [or_nat _ _ h1 h2]
  have ex : Go.bits .xor .u64 18446744073709551615 ((b.1 ||| b.2 : Nat) : Int) = (((2 ^ 64 - 1) ^^^ (b.1 ||| b.2) : Nat) : Int) := by
    rw [show (18446744073709551615 : Int) = ((2 ^ 64 - 1 : Nat) : Int) by omega, xor_nat _ _ (by omega) (Nat.or_lt_two_pow h1 h2)]
  have lt : (2 ^ 64 - 1) ^^^ (b.1 ||| b.2) < 2 ^ 64 := Nat.xor_lt_two_pow (by omega) (Nat.or_lt_two_pow h1 h2)
  unfold known_wide_low.f lowK
  rw [ea, Option.bind_some, ex]
  generalize (2 ^ 64 - 1) ^^^ (b.1 ||| b.2) = x at *
  rw [if_pos ⟨by omega, by omega⟩, Int.toNat_natCast]
theorem low_spec {b : Nat × Nat} (h1 : b.1 < 2 ^ 64) (h2 : b.2 < 2 ^ 64) : (∀ i, i < lowK b → (b.1 ||| b.2).testBit i = true) ∧ (lowK b < 64 → (b.1 ||| b.2).testBit (lowK b) = false) := by
  have hy := Nat.or_lt_two_pow h1 h2
  unfold lowK
  rw [not_nat _ _ hy]
  generalize b.1 ||| b.2 = y at *
  have bits : ∀ i, (2 ^ 64 - 1 - y).testBit i = (decide (i < 64) && !y.testBit i) := fun i => of_bits hy
  unfold Lib.ctz
  by_cases c : 2 ^ 64 - 1 - y = 0
  · rw [if_pos c]
    refine ⟨fun i hi => ?_, fun h => absurd h (Nat.lt_irrefl _)⟩
    have := bits i
    rw [c, Nat.zero_testBit, decide_eq_true hi, Bool.true_and] at this
    simpa using this.symm
  · rw [if_neg c]
    obtain ⟨m, e, hk⟩ := Lib.ctzFrom_spec 64 (2 ^ 64 - 1 - y) (by omega) (by omega)
    generalize Lib.ctzFrom 64 (2 ^ 64 - 1 - y) = k at *
    refine ⟨fun i hi => ?_, fun _ => ?_⟩
    · have := bits i
      rw [e, Nat.testBit_two_pow_mul, decide_eq_false (by omega), Bool.false_and, decide_eq_true (show i < 64 by omega), Bool.true_and] at this
      simpa using this.symm
    · have := bits k
      rw [e, Nat.testBit_two_pow_mul, decide_eq_true (Nat.le_refl _), Bool.true_and, Nat.sub_self, decide_eq_true hk, Bool.true_and] at this
      have o : (2 * m + 1).testBit 0 = true := by simp [Nat.testBit_zero]
      rw [o] at this
      simpa using this.symm
theorem low_mono {x y : Nat × Nat} (h1 : x.1 < 2 ^ 64) (h2 : x.2 < 2 ^ 64) (h3 : y.1 < 2 ^ 64) (h4 : y.2 < 2 ^ 64) (h : Sub x y) (hl : lowK x ≤ 64) : lowK x ≤ lowK y ∨ 64 ≤ lowK y := by
  rcases Nat.lt_or_ge (lowK y) (lowK x) with c | c
  · rcases Nat.lt_or_ge (lowK y) 64 with d | d
    · have e := (low_spec h1 h2).1 _ c
      have f := (low_spec h3 h4).2 d
      simp only [Nat.testBit_or, Bool.or_eq_true, Bool.or_eq_false_iff] at e f
      rcases e with e | e
      · rw [(h _).1 e] at f; cases f.1
      · rw [(h _).2 e] at f; cases f.2
    · exact .inr d
  · exact .inl c
/-- The lowest bits. -/
def sumsK (op : Int) (W : Nat) (x y : Nat × Nat) : Nat × Nat :=
  if min (min (lowK x) (lowK y)) W = 0 then (0, 0) else ofK (min (min (lowK x) (lowK y)) W) (applyN op (min (min (lowK x) (lowK y)) W) (x.2 % 2 ^ min (min (lowK x) (lowK y)) W) (y.2 % 2 ^ min (min (lowK x) (lowK y)) W))
theorem mn_nat (a b : Nat) : mn (a : Int) (b : Int) = ((min a b : Nat) : Int) := by unfold mn; split <;> omega
theorem sums_eqK (op : Int) {W : Nat} (hW1 : 1 ≤ W) (hW : W ≤ 64) {x y : Nat × Nat} (hx : OkK W x) (hy : OkK W y) : known_pair_sums.f (x.1 : Int) (x.2 : Int) (W : Int) (y.1 : Int) (y.2 : Int) (W : Int) op = some (KZ (sumsK op W x y)) := by
  have ox := ok_lt64 hW hx
  have oy := ok_lt64 hW hy
  unfold known_pair_sums.f sumsK
  rw [low_eqK _ _ ox.1 ox.2, low_eqK _ _ oy.1 oy.2]
  simp only [Option.bind_some, mn_nat]
  have hn : min (min (lowK x) (lowK y)) W ≤ 64 := by omega
  generalize min (min (lowK x) (lowK y)) W = n at *
  by_cases c : n = 0
  · rw [if_pos c, if_pos (by omega)]; rfl
  · have hc := cw_of (W := n) (by omega) hn
    have pn : 0 < 2 ^ n := Nat.pow_pos (by decide)
    have hp := pow_le64 hn
    have hv := apply_lt op (W := n) (by omega) (Nat.mod_lt x.2 pn) (Nat.mod_lt y.2 pn)
    rw [if_neg c, if_neg (by omega), apply_eq op _ _ _ ox.2 oy.2, hc]
    simp only [Option.bind_some]
    rw [of_eqK _ _ (by omega), hc]
    rfl
/-- The bits that come in from above. -/
def inK (W s : Nat) : Nat := (2 ^ W - 1) &&& (2 ^ 64 - 1 - (2 ^ W - 1) / 2 ^ s)
def downK (W : Nat) (b : Nat × Nat) (s : Nat) : Nat × Nat := (b.1 / 2 ^ s ||| inK W s, b.2 / 2 ^ s)
def upK (W : Nat) (b : Nat × Nat) (s : Nat) : Nat × Nat := rightK W (b.1 * 2 ^ s % 2 ^ 64 ||| (2 ^ s - 1), b.2 * 2 ^ s % 2 ^ 64)
def signK (W : Nat) (b : Nat × Nat) (s : Nat) : Nat × Nat :=
  if b.1 &&& 2 ^ (W - 1) = 0 then (if b.2 &&& 2 ^ (W - 1) = 0 then (b.1 / 2 ^ s, b.2 / 2 ^ s) else (b.1 / 2 ^ s, b.2 / 2 ^ s ||| inK W s)) else (b.1 / 2 ^ s ||| inK W s, b.2 / 2 ^ s)
theorem in_eqK {W : Nat} (hW1 : 1 ≤ W) (hW : W ≤ 64) (b : Nat × Nat) {s : Nat} (hs : s ≤ 64) : known_wide_in.f (b.1 : Int) (b.2 : Int) (W : Int) (s : Int) = some (inK W s : Int) := by
  have hc := cw_of hW1 hW
  have hp := pow_le64 hW
  have hd : (2 ^ W - 1) / 2 ^ s ≤ 2 ^ W - 1 := Nat.div_le_self _ _
  unfold known_wide_in.f inK
  rw [mask_eq, hc]
  simp only [Option.bind_some]
  rw [if_pos (Int.natCast_nonneg s), shr_nat _ _ hs, andNot_nat _ _ (by omega) (by omega)]
theorem div_lt64 {a s : Nat} (h : a < 2 ^ 64) : a / 2 ^ s < 2 ^ 64 := Nat.lt_of_le_of_lt (Nat.div_le_self _ _) h
theorem in_lt64 {W : Nat} (hW : W ≤ 64) (s : Nat) : inK W s < 2 ^ 64 := by
  have hp := pow_le64 hW
  have pp : 0 < 2 ^ W := Nat.pow_pos (by decide)
  exact Nat.lt_of_le_of_lt Nat.and_le_left (by omega)
theorem down_eqK {W : Nat} (hW1 : 1 ≤ W) (hW : W ≤ 64) {b : Nat × Nat} (hb : OkK W b) {s : Nat} (hs : s ≤ 64) : known_wide_down.f (b.1 : Int) (b.2 : Int) (W : Int) (s : Int) = some (KZ (downK W b s)) := by
  have ob := ok_lt64 hW hb
  unfold known_wide_down.f downK
  rw [if_pos (Int.natCast_nonneg s), in_eqK hW1 hW b hs]
  simp only [Option.bind_some]
  rw [shr_nat _ _ hs, shr_nat _ _ hs, or_nat _ _ (div_lt64 ob.1) (in_lt64 hW s)]
  rfl
theorem up_eqK {W : Nat} (hW1 : 1 ≤ W) (hW : W ≤ 64) {b : Nat × Nat} (hb : OkK W b) {s : Nat} (hs : s < 64) : known_wide_up.f (b.1 : Int) (b.2 : Int) (W : Int) (s : Int) = some (KZ (upK W b s)) := by
  have hc := cw_of hW1 hW
  have ob := ok_lt64 hW hb
  have ps : 2 ^ s < 2 ^ 64 := Nat.pow_lt_pow_right (by decide) hs
  have p0 : 0 < 2 ^ s := Nat.pow_pos (by decide)
  have m0 : ∀ a : Nat, a % 2 ^ 64 < 2 ^ 64 := fun a => Nat.mod_lt _ (by decide)
  unfold known_wide_up.f upK
  rw [if_pos (Int.natCast_nonneg s), shl_nat _ _ (by omega), shl_nat _ _ (by omega), show (1 : Int) = ((1 : Nat) : Int) from rfl, shl_nat _ _ (by omega), Nat.one_mul, Nat.mod_eq_of_lt ps,
    show IntKind.u64.wrap (((2 ^ s : Nat) : Int) - ((1 : Nat) : Int)) = ((2 ^ s - 1 : Nat) : Int) by rw [u64_small (by omega) (by omega)]; omega, or_nat _ _ (m0 _) (by omega)]
  have e := kright_eq (W : Int) (b.1 * 2 ^ s % 2 ^ 64 ||| (2 ^ s - 1), b.2 * 2 ^ s % 2 ^ 64) (Nat.or_lt_two_pow (m0 _) (by omega)) (m0 _)
  rw [hc] at e
  simp only at e
  rw [e]
  rfl
theorem sign_eqK {W : Nat} (hW1 : 1 ≤ W) (hW : W ≤ 64) {b : Nat × Nat} (hb : OkK W b) {s : Nat} (hs : s ≤ 64) : known_wide_sign.f (b.1 : Int) (b.2 : Int) (W : Int) (s : Int) = some (KZ (signK W b s)) := by
  have ob := ok_lt64 hW hb
  have pt : 2 ^ (W - 1) < 2 ^ 64 := Nat.pow_lt_pow_right (by decide) (by omega)
  have e : wrap64 ((W : Int) - 1) = ((W - 1 : Nat) : Int) := by unfold wrap64; omega
  unfold known_wide_sign.f signK
  rw [e, if_pos (Int.natCast_nonneg _), if_pos (Int.natCast_nonneg s), show (1 : Int) = ((1 : Nat) : Int) from rfl, shl_nat _ _ (by omega), Nat.one_mul, Nat.mod_eq_of_lt pt, and_nat _ _ ob.1 pt, and_nat _ _ ob.2 pt, in_eqK hW1 hW b hs, shr_nat _ _ hs, shr_nat _ _ hs]
  simp only [Option.bind_some]
  rw [or_nat _ _ (div_lt64 ob.1) (in_lt64 hW s), or_nat _ _ (div_lt64 ob.2) (in_lt64 hW s)]
  by_cases c : b.1 &&& 2 ^ (W - 1) = 0
  · rw [if_pos c, if_pos (by rw [c]; rfl)]
    by_cases d : b.2 &&& 2 ^ (W - 1) = 0
    · rw [if_pos d, if_pos (by rw [d]; rfl)]; rfl
    · rw [if_neg d, if_neg (by omega)]; rfl
  · rw [if_neg c, if_neg (by omega)]; rfl
/-- A shift by what is known. -/
def movedK (op : Int) (W : Nat) (x y : Nat × Nat) : Nat × Nat :=
  if (numK W y).2 = false then (0, 0)
  else if op = 18 then (if W ≤ (numK W y).1 then signK W x (W - 1) else signK W x (numK W y).1)
  else if W ≤ (numK W y).1 then ofK W 0
  else if op = 16 then upK W x (numK W y).1 else downK W x (numK W y).1
theorem moved_eqK (op : Int) {W : Nat} (hW1 : 1 ≤ W) (hW : W ≤ 64) {x y : Nat × Nat} (hx : OkK W x) (hy : OkK W y) : known_pair_moved.f (x.1 : Int) (x.2 : Int) (W : Int) (y.1 : Int) (y.2 : Int) (W : Int) op = some (KZ (movedK op W x y)) := by
  have hc := cw_of hW1 hW
  have oy := ok_lt64 hW hy
  have e := num_eqK (W : Int) y oy.1 oy.2
  rw [hc] at e
  unfold known_pair_moved.f movedK
  rw [e]
  simp only [Option.bind_some]
  cases c : (numK W y).2
  · simp only [if_true]; rfl
  · simp only [Bool.true_eq_false, if_false]
    unfold known_moved_on
    rw [u64_small (n := (W : Int)) (by omega) (by omega)]
    have e2 : IntKind.u64.wrap (wrap64 ((W : Int) - 1)) = ((W - 1 : Nat) : Int) := by
      rw [show wrap64 ((W : Int) - 1) = ((W - 1 : Nat) : Int) by unfold wrap64; omega, u64_small (by omega) (by omega)]
    by_cases o : op = 18
    · rw [if_pos o, if_pos o]
      by_cases d : W ≤ (numK W y).1
      · rw [if_pos d, if_pos (by omega), e2, sign_eqK hW1 hW hx (by omega)]
      · rw [if_neg d, if_neg (by omega), sign_eqK hW1 hW hx (by omega)]
    · rw [if_neg o, if_neg o]
      by_cases d : W ≤ (numK W y).1
      · rw [if_pos d, if_pos (by omega)]
        have := of_eqK (W : Int) 0 (by decide)
        rw [hc] at this
        exact this
      · rw [if_neg d, if_neg (by omega)]
        by_cases u : op = 16
        · rw [if_pos u, if_pos u, up_eqK hW1 hW hx (by omega)]
        · rw [if_neg u, if_neg u, down_eqK hW1 hW hx (by omega)]
end Go.Proofs.YtidabafobpbniaaDoor.Pure
