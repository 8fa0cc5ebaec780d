/- Known bits, the plain law: what known's Right, Of, Num, Has, Meet, Join come to, of natural numbers. -/
import Derived.Test.YtidabafobpbniaaDoorPureX
import Derived.Test.YtidabafobpbniaaDoorPx6
import Derived.Test.YtidabafobpbniaaDoorPx4
import Derived.Test.YtidabafobpbniaaDoorPx14
import Derived.Test.YtidabafobpbniaaDoorPx16
namespace Go.Proofs.YtidabafobpbniaaDoor.Pure
open Go.RowKit Go.Proofs.YtidabafobpbniaaDoor.P Go.Proofs.YtidabafobpbniaaDoorW.PrintWords Go.Proofs.YtidabafobpbniaaDoorW.PrintLast Go.Proofs.YtidabafobpbniaaDoorW.PrintMore
set_option linter.unusedVariables false
set_option linter.unusedSimpArgs false

def KZ (x : Nat × Nat) : Int × Int := ((x.1 : Int), (x.2 : Int))
/-- Known bits, or nothing. -/
def rightK (W : Nat) (b : Nat × Nat) : Nat × Nat := if b.1 % 2 ^ W &&& b.2 % 2 ^ W = 0 then (b.1 % 2 ^ W, b.2 % 2 ^ W) else (0, 0)
def OkK (W : Nat) (b : Nat × Nat) : Prop := b.1 < 2 ^ W ∧ b.2 < 2 ^ W ∧ b.1 &&& b.2 = 0
/-- Has a word these bits? -/
def Fits (b : Nat × Nat) (x : Nat) : Prop := ∀ i, (b.1.testBit i = true → x.testBit i = false) ∧ (b.2.testBit i = true → x.testBit i = true)
theorem right_okK (W : Nat) (b : Nat × Nat) : OkK W (rightK W b) := by
  have hp : 0 < 2 ^ W := Nat.pow_pos (by decide)
  unfold rightK OkK
  split
  · exact ⟨Nat.mod_lt _ hp, Nat.mod_lt _ hp, by assumption⟩
  · exact ⟨hp, hp, rfl⟩
theorem right_ofK {W : Nat} {b : Nat × Nat} (h : OkK W b) : rightK W b = b := by
  unfold rightK
  rw [Nat.mod_eq_of_lt h.1, Nat.mod_eq_of_lt h.2.1, if_pos h.2.2]
theorem ok_lt64 {W : Nat} (hW : W ≤ 64) {b : Nat × Nat} (h : OkK W b) : b.1 < 2 ^ 64 ∧ b.2 < 2 ^ 64 := by
  have := pow_le64 hW
  exact ⟨Nat.lt_of_lt_of_le h.1 this, Nat.lt_of_lt_of_le h.2.1 this⟩
theorem and0_iff (a b : Nat) : a &&& b = 0 ↔ ∀ i, a.testBit i = true → b.testBit i = false := by
  constructor
  · intro h i ha
    have := congrArg (fun n => Nat.testBit n i) h
    simp only [Nat.testBit_and, ha, Bool.true_and, Nat.zero_testBit] at this
    exact this
  · intro h
    apply Nat.eq_of_testBit_eq
    intro i
    rw [Nat.testBit_and, Nat.zero_testBit]
    cases ha : a.testBit i
    · rfl
    · rw [h i ha]; rfl
theorem bit_lt {a W i : Nat} (h : a < 2 ^ W) (ha : a.testBit i = true) : i < W := by
  rcases Nat.lt_or_ge i W with c | c
  · exact c
  · have := Nat.testBit_lt_two_pow (Nat.lt_of_lt_of_le h (Nat.pow_le_pow_right (by decide) c))
    rw [this] at ha; cases ha
theorem andNot0_iff (a x : Nat) (ha : a < 2 ^ 64) (hx : x < 2 ^ 64) : a &&& (2 ^ 64 - 1 - x) = 0 ↔ ∀ i, a.testBit i = true → x.testBit i = true := by
  rw [and0_iff]
  have e : 2 ^ 64 - 1 - x = 2 ^ 64 - (x + 1) := by omega
  constructor
  · intro h i hi
    have := h i hi
    rw [e, Nat.testBit_two_pow_sub_succ hx, decide_eq_true (bit_lt ha hi), Bool.true_and] at this
    simpa using this
  · intro h i hi
    rw [e, Nat.testBit_two_pow_sub_succ hx, h i hi]
    simp
theorem fits_iff {b : Nat × Nat} {x : Nat} (h : b.2 < 2 ^ 64) (hx : x < 2 ^ 64) : (b.2 &&& (2 ^ 64 - 1 - x) = 0 ∧ b.1 &&& x = 0) ↔ Fits b x := by
  rw [andNot0_iff _ _ h hx, and0_iff]
  exact ⟨fun q i => ⟨q.2 i, q.1 i⟩, fun q => ⟨fun i => (q i).2, fun i => (q i).1⟩⟩
/-- Only the bits below the width count. -/
theorem fits_mod {W : Nat} {b : Nat × Nat} (h : OkK W b) (x : Nat) : Fits b (x % 2 ^ W) ↔ Fits b x := by
  constructor
  · intro q i
    refine ⟨fun hi => ?_, fun hi => ?_⟩
    · have := (q i).1 hi; rw [Nat.testBit_mod_two_pow, decide_eq_true (bit_lt h.1 hi), Bool.true_and] at this; exact this
    · have := (q i).2 hi; rw [Nat.testBit_mod_two_pow, decide_eq_true (bit_lt h.2.1 hi), Bool.true_and] at this; exact this
  · intro q i
    refine ⟨fun hi => ?_, fun hi => ?_⟩
    · rw [Nat.testBit_mod_two_pow, (q i).1 hi, Bool.and_false]
    · rw [Nat.testBit_mod_two_pow, (q i).2 hi, decide_eq_true (bit_lt h.2.1 hi)]; rfl
theorem kright_eq (w : Int) (b : Nat × Nat) (h1 : b.1 < 2 ^ 64) (h2 : b.2 < 2 ^ 64) : known_Right.f w (b.1 : Int) (b.2 : Int) = some (KZ (rightK (cw w) b)) := by
  have hr := cw_range w
  have hp := pow_le64 hr.2
  have pp : 0 < 2 ^ cw w := Nat.pow_pos (by decide)
  have l1 := Nat.mod_lt b.1 pp
  have l2 := Nat.mod_lt b.2 pp
  unfold known_Right.f rightK
  rw [cut_eq w _ h1, cut_eq w _ h2]
  simp only [Option.bind_some]
  rw [and_nat _ _ (by omega) (by omega)]
  by_cases c : b.1 % 2 ^ cw w &&& b.2 % 2 ^ cw w = 0
  · rw [if_pos c, if_pos (by rw [c]; rfl)]; rfl
  · rw [if_neg c, if_neg (by omega)]; rfl
/-- A word's bits. -/
def ofK (W x : Nat) : Nat × Nat := (2 ^ W - 1 - x % 2 ^ W, x % 2 ^ W)
theorem mask_xor {W x : Nat} (h : x < 2 ^ W) : x ^^^ (2 ^ W - 1) = 2 ^ W - 1 - x := by
  rw [Nat.xor_comm]; exact not_nat x W h
theorem of_eqK (w : Int) (x : Nat) (hx : x < 2 ^ 64) : known_Of.f w (x : Int) = some (KZ (ofK (cw w) x)) := by
  have hr := cw_range w
  have hp := pow_le64 hr.2
  have pp : 0 < 2 ^ cw w := Nat.pow_pos (by decide)
  have l1 := Nat.mod_lt x pp
  unfold known_Of.f ofK
  rw [cut_eq w _ hx, mask_eq]
  simp only [Option.bind_some]
  rw [xor_nat _ _ (by omega) (by omega), mask_xor l1]
  rfl
theorem of_bits {W x i : Nat} (hx : x < 2 ^ W) : (2 ^ W - 1 - x).testBit i = (decide (i < W) && !x.testBit i) := by
  rw [show 2 ^ W - 1 - x = 2 ^ W - (x + 1) by omega, Nat.testBit_two_pow_sub_succ hx]
theorem of_okK (W x : Nat) : OkK W (ofK W x) := by
  have pp : 0 < 2 ^ W := Nat.pow_pos (by decide)
  have l1 := Nat.mod_lt x pp
  refine ⟨by unfold ofK; simp only; omega, l1, ?_⟩
  rw [and0_iff]
  intro i hi
  unfold ofK at hi ⊢
  simp only at hi ⊢
  rw [of_bits l1] at hi
  cases c : (x % 2 ^ W).testBit i
  · rfl
  · rw [c] at hi; simp at hi
theorem of_fits {W x y : Nat} (hx : x < 2 ^ W) (hy : y < 2 ^ W) : Fits (ofK W x) y ↔ y = x := by
  unfold Fits ofK
  rw [Nat.mod_eq_of_lt hx]
  constructor
  · intro q
    apply Nat.eq_of_testBit_eq
    intro i
    cases c : x.testBit i
    · rcases Nat.lt_or_ge i W with d | d
      · exact (q i).1 (by simp only; rw [of_bits hx, c, decide_eq_true d]; rfl)
      · exact Nat.testBit_lt_two_pow (Nat.lt_of_lt_of_le hy (Nat.pow_le_pow_right (by decide) d))
    · exact (q i).2 c
  · rintro rfl i
    refine ⟨fun h => ?_, fun h => h⟩
    simp only at h
    rw [of_bits hx] at h
    cases c : y.testBit i
    · rfl
    · rw [c] at h; simp at h
def hasK (W : Nat) (b : Nat × Nat) (x : Nat) : Bool := decide ((rightK W b).2 &&& (2 ^ 64 - 1 - x) = 0 ∧ (rightK W b).1 &&& x = 0)
theorem hasK_iff {W : Nat} (hW : W ≤ 64) (b : Nat × Nat) {x : Nat} (hx : x < 2 ^ 64) : hasK W b x = true ↔ Fits (rightK W b) x := by
  unfold hasK
  rw [decide_eq_true_eq]
  exact fits_iff (ok_lt64 hW (right_okK W b)).2 hx
theorem has_eqK (w : Int) (b : Nat × Nat) (x : Nat) (h1 : b.1 < 2 ^ 64) (h2 : b.2 < 2 ^ 64) (hx : x < 2 ^ 64) : known_Has.f w (b.1 : Int) (b.2 : Int) (x : Int) = some (hasK (cw w) b x) := by
  have hr := cw_range w
  have ok := ok_lt64 hr.2 (right_okK (cw w) b)
  unfold known_Has.f hasK
  rw [kright_eq w b h1 h2]
  simp only [Option.bind_some, KZ]
  rw [andNot_nat _ _ ok.2 hx, and_nat _ _ ok.1 hx]
  by_cases c : (rightK (cw w) b).2 &&& (2 ^ 64 - 1 - x) = 0
  · rw [if_pos (show (((rightK (cw w) b).2 &&& (2 ^ 64 - 1 - x) : Nat) : Int) = 0 by rw [c]; rfl)]
    congr 1
    apply Bool.eq_iff_iff.2
    simp only [beq_iff_eq, decide_eq_true_eq]
    constructor
    · intro d; exact ⟨c, by omega⟩
    · intro d; rw [d.2]; rfl
  · rw [if_neg (by omega), decide_eq_false (fun d => c d.1)]
def joinK (W : Nat) (x y : Nat × Nat) : Nat × Nat := ((rightK W x).1 &&& (rightK W y).1, (rightK W x).2 &&& (rightK W y).2)
theorem join_eqK (w : Int) (x y : Nat × Nat) (h1 : x.1 < 2 ^ 64) (h2 : x.2 < 2 ^ 64) (h3 : y.1 < 2 ^ 64) (h4 : y.2 < 2 ^ 64) : known_Join.f w (x.1 : Int) (x.2 : Int) (y.1 : Int) (y.2 : Int) = some (KZ (joinK (cw w) x y)) := by
  have hr := cw_range w
  have ox := ok_lt64 hr.2 (right_okK (cw w) x)
  have oy := ok_lt64 hr.2 (right_okK (cw w) y)
  unfold known_Join.f joinK
  rw [kright_eq w x h1 h2, kright_eq w y h3 h4]
  simp only [Option.bind_some, KZ]
  rw [and_nat _ _ ox.1 oy.1, and_nat _ _ ox.2 oy.2]
theorem join_okK (W : Nat) (x y : Nat × Nat) : OkK W (joinK W x y) := by
  have hx := right_okK W x
  have hy := right_okK W y
  unfold joinK
  refine ⟨Nat.lt_of_le_of_lt Nat.and_le_left hx.1, Nat.lt_of_le_of_lt Nat.and_le_left hx.2.1, ?_⟩
  rw [and0_iff]
  intro i hi
  simp only [Nat.testBit_and, Bool.and_eq_true] at hi
  have := (and0_iff _ _).1 hx.2.2 i hi.1
  simp only [Nat.testBit_and, this, Bool.false_and]
/-- Of less known. -/
def Sub (x y : Nat × Nat) : Prop := ∀ i, (x.1.testBit i = true → y.1.testBit i = true) ∧ (x.2.testBit i = true → y.2.testBit i = true)
theorem join_sub (W : Nat) (x y : Nat × Nat) : Sub (joinK W x y) (rightK W x) ∧ Sub (joinK W x y) (rightK W y) := by
  unfold joinK Sub
  refine ⟨fun i => ?_, fun i => ?_⟩ <;> simp only [Nat.testBit_and, Bool.and_eq_true]
  · exact ⟨fun h => h.1, fun h => h.1⟩
  · exact ⟨fun h => h.2, fun h => h.2⟩
theorem fits_sub {x y : Nat × Nat} (h : Sub x y) {a : Nat} (f : Fits y a) : Fits x a := fun i => ⟨fun hi => (f i).1 ((h i).1 hi), fun hi => (f i).2 ((h i).2 hi)⟩
def meetK (W : Nat) (x y : Nat × Nat) : (Nat × Nat) × Bool := if ((rightK W x).1 ||| (rightK W y).1) &&& ((rightK W x).2 ||| (rightK W y).2) = 0 then (((rightK W x).1 ||| (rightK W y).1, (rightK W x).2 ||| (rightK W y).2), true) else ((0, 0), false)
theorem meet_eqK (w : Int) (x y : Nat × Nat) (h1 : x.1 < 2 ^ 64) (h2 : x.2 < 2 ^ 64) (h3 : y.1 < 2 ^ 64) (h4 : y.2 < 2 ^ 64) : known_Meet.f w (x.1 : Int) (x.2 : Int) (y.1 : Int) (y.2 : Int) = some (((meetK (cw w) x y).1.1 : Int), ((meetK (cw w) x y).1.2 : Int), (meetK (cw w) x y).2) := by
  have hr := cw_range w
  have ox := ok_lt64 hr.2 (right_okK (cw w) x)
  have oy := ok_lt64 hr.2 (right_okK (cw w) y)
  unfold known_Meet.f meetK
  rw [kright_eq w x h1 h2, kright_eq w y h3 h4]
  simp only [Option.bind_some, KZ]
  rw [or_nat _ _ ox.1 oy.1, or_nat _ _ ox.2 oy.2, and_nat _ _ (Nat.or_lt_two_pow ox.1 oy.1) (Nat.or_lt_two_pow ox.2 oy.2)]
  by_cases c : ((rightK (cw w) x).1 ||| (rightK (cw w) y).1) &&& ((rightK (cw w) x).2 ||| (rightK (cw w) y).2) = 0
  · rw [if_pos c, if_pos (by rw [c]; rfl)]
  · rw [if_neg c, if_neg (by omega)]; rfl
end Go.Proofs.YtidabafobpbniaaDoor.Pure
