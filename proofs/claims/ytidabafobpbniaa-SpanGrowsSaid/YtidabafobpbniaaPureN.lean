/- Spans of natural numbers, the plain law: what an operation's span holds, and how it grows. -/
import Derived.Test.YtidabafobpbniaaPureX
namespace Go.Proofs.Ytidabafobpbniaa.Pure
open Go.RowKit Go.Proofs.Ytidabafobpbniaa.P Go.Proofs.YtidabafobpbniaaW.PrintWords Go.Proofs.YtidabafobpbniaaW.PrintLast Go.Proofs.YtidabafobpbniaaW.PrintMore
set_option linter.unusedVariables false
set_option linter.unusedSimpArgs false

/-- How many bits a number has. -/
def lenN (n : Nat) : Nat := if n = 0 then 0 else n.log2 + 1
theorem lenN_lt (n : Nat) : n < 2 ^ lenN n := by
  unfold lenN
  by_cases h : n = 0
  · subst h; decide
  · rw [if_neg h]; exact Nat.lt_log2_self
theorem lenN_le {n k : Nat} (h : n < 2 ^ k) : lenN n ≤ k := by
  unfold lenN
  by_cases z : n = 0
  · rw [if_pos z]; omega
  · rw [if_neg z]; exact (Nat.log2_lt z).2 h
theorem lenN_mono {m n : Nat} (h : m ≤ n) : lenN m ≤ lenN n := lenN_le (Nat.lt_of_le_of_lt h (lenN_lt n))
/-- The least number of all bits 1 that neither is above. -/
def fullN (x y : Nat) : Nat := 2 ^ lenN (max x y) - 1
theorem full_ge (x y : Nat) : x ≤ fullN x y ∧ y ≤ fullN x y := by
  have := lenN_lt (max x y)
  unfold fullN
  omega
theorem full_mono {x y x' y' : Nat} (h : x ≤ x') (h' : y ≤ y') : fullN x y ≤ fullN x' y' := by
  have := Nat.pow_le_pow_right (n := 2) (by decide) (lenN_mono (show max x y ≤ max x' y' by omega))
  unfold fullN
  omega
theorem full_le {W x y : Nat} (hx : x ≤ 2 ^ W - 1) (hy : y ≤ 2 ^ W - 1) : fullN x y ≤ 2 ^ W - 1 := by
  have hp : 0 < 2 ^ W := Nat.two_pow_pos W
  have := Nat.pow_le_pow_right (n := 2) (by decide) (lenN_le (show max x y < 2 ^ W by omega))
  unfold fullN
  omega
theorem or_full (a b x y : Nat) (ha : a ≤ x) (hb : b ≤ y) : a ||| b ≤ fullN x y := by
  have h := lenN_lt (max x y)
  have := Nat.or_lt_two_pow (show a < 2 ^ lenN (max x y) by omega) (show b < 2 ^ lenN (max x y) by omega)
  unfold fullN
  omega
theorem xor_full (a b x y : Nat) (ha : a ≤ x) (hb : b ≤ y) : a ^^^ b ≤ fullN x y := by
  have h := lenN_lt (max x y)
  have := Nat.xor_lt_two_pow (show a < 2 ^ lenN (max x y) by omega) (show b < 2 ^ lenN (max x y) by omega)
  unfold fullN
  omega
/-- Moved down; 0 behind the width. -/
def downN (W x y : Nat) : Nat := if W ≤ y then 0 else x / 2 ^ y
theorem down_mono {W x y x' y' : Nat} (h : x ≤ x') (h' : y' ≤ y) : downN W x y ≤ downN W x' y' := by
  unfold downN
  by_cases a : W ≤ y
  · rw [if_pos a]; omega
  · rw [if_neg a, if_neg (by omega)]
    exact Nat.div_le_div h (Nat.pow_le_pow_right (by decide) h') (Nat.ne_of_gt (Nat.two_pow_pos _))
theorem down_le (W x y : Nat) : downN W x y ≤ x := by
  unfold downN
  split
  · omega
  · exact Nat.div_le_self _ _

/-- A span that is one, or the whole. -/
def rightN (W : Nat) (x : Nat × Nat) : Nat × Nat := if x.2 < x.1 then (0, 2 ^ W - 1) else if 2 ^ W - 1 < x.2 then (0, 2 ^ W - 1) else x
/-- Is it one? -/
def Ok (W : Nat) (x : Nat × Nat) : Prop := x.1 ≤ x.2 ∧ x.2 ≤ 2 ^ W - 1
theorem right_ok (W : Nat) (x : Nat × Nat) : Ok W (rightN W x) := by
  unfold Ok rightN
  split
  · simp
  · split
    · simp
    · omega
theorem right_of {W : Nat} {x : Nat × Nat} (h : Ok W x) : rightN W x = x := by
  unfold Ok at h
  unfold rightN
  rw [if_neg (by omega), if_neg (by omega)]
def truthN (yes no : Bool) : Nat × Nat := if yes = true then (1, 1) else if no = true then (0, 0) else (0, 1)
def belowN (T : Nat) (x y : Nat × Nat) : Nat × Nat :=
  if x.2 < T ∧ y.2 < T then truthN (decide (x.2 < y.1)) (decide (y.2 ≤ x.1))
  else if T ≤ x.1 ∧ T ≤ y.1 then truthN (decide (x.2 < y.1)) (decide (y.2 ≤ x.1))
  else truthN (decide (T ≤ x.1) && decide (y.2 < T)) (decide (x.2 < T) && decide (T ≤ y.1))
/-- The table. -/
def tableN (op : Int) (W : Nat) (x y : Nat × Nat) : Nat × Nat :=
  if op = 5 then (2 ^ W - 1 - x.2, 2 ^ W - 1 - x.1)
  else if op = 8 then (if (2 ^ W ≤ x.1 + y.1 ↔ 2 ^ W ≤ x.2 + y.2) then rightN W ((x.1 + y.1) % 2 ^ W, (x.2 + y.2) % 2 ^ W) else (0, 2 ^ W - 1))
  else if op = 9 then (if (x.1 < y.2 ↔ x.2 < y.1) then rightN W ((x.1 + (2 ^ W - y.2)) % 2 ^ W, (x.2 + (2 ^ W - y.1)) % 2 ^ W) else (0, 2 ^ W - 1))
  else if op = 10 then (if x.2 * y.2 < 2 ^ W then (x.1 * y.1, x.2 * y.2) else (0, 2 ^ W - 1))
  else if op = 11 then (if y.1 = 0 then (0, 2 ^ W - 1) else (x.1 / y.2, x.2 / y.1))
  else if op = 12 then (if x.2 < y.1 then x else if y.1 = 0 then (0, x.2) else (0, min x.2 (y.2 - 1)))
  else if op = 13 then (0, min x.2 y.2)
  else if op = 14 then (max x.1 y.1, fullN x.2 y.2)
  else if op = 15 then (0, fullN x.2 y.2)
  else if op = 19 then truthN false (decide (x.2 < y.1) || decide (y.2 < x.1))
  else if op = 20 then truthN (decide (x.2 < y.1)) (decide (y.2 ≤ x.1))
  else if op = 21 then belowN (2 ^ (W - 1)) x y
  else if op = 16 then (if y.2 < W ∧ x.2 * 2 ^ y.2 < 2 ^ W then (x.1 * 2 ^ y.1, x.2 * 2 ^ y.2) else (0, 2 ^ W - 1))
  else if op = 18 ∧ 2 ^ (W - 1) ≤ x.2 then (0, 2 ^ W - 1)
  else (downN W x.1 y.2, downN W x.2 y.1)

def isOp (op : Int) : Prop := 5 ≤ op ∧ op ≤ 21 ∧ op ≠ 6 ∧ op ≠ 7
instance (op : Int) : Decidable (isOp op) := by unfold isOp; infer_instance
theorem op_cases {op : Int} (h : isOp op) : op = 5 ∨ op = 8 ∨ op = 9 ∨ op = 10 ∨ op = 11 ∨ op = 12 ∨ op = 13 ∨ op = 14 ∨ op = 15 ∨ op = 16 ∨ op = 17 ∨ op = 18 ∨ op = 19 ∨ op = 20 ∨ op = 21 := by
  unfold isOp at h
  omega
/-- It is in the span, and the span is one. -/
def Sound (W : Nat) (s : Nat × Nat) (n : Nat) : Prop := s.1 ≤ n ∧ n ≤ s.2 ∧ s.2 ≤ 2 ^ W - 1
theorem truth_sound {W : Nat} (h1 : 1 ≤ W) (yes no : Bool) (p : Prop) [Decidable p] (hy : yes = true → p) (hn : no = true → ¬ p) : Sound W (truthN yes no) (if p then 1 else 0) := by
  have h2 : 2 ≤ 2 ^ W := by have := half_split W h1; have : 0 < 2 ^ (W - 1) := Nat.two_pow_pos _; omega
  unfold Sound truthN
  by_cases a : yes = true
  · rw [if_pos a, if_pos (hy a)]; simp; omega
  · rw [if_neg a]
    by_cases b : no = true
    · rw [if_pos b, if_neg (hn b)]; simp
    · rw [if_neg b]
      refine ⟨by simp, ?_, by simp; omega⟩
      split <;> simp
theorem table_sound {op : Int} (ho : isOp op) {W : Nat} (h1 : 1 ≤ W) {x y : Nat × Nat} (hx : Ok W x) (hy : Ok W y) {a b : Nat} (ha : x.1 ≤ a ∧ a ≤ x.2) (hb : y.1 ≤ b ∧ b ≤ y.2) : Sound W (tableN op W x y) (applyN op W a b) := by
  obtain ⟨x0, x1⟩ := x
  obtain ⟨y0, y1⟩ := y
  unfold Ok at hx hy
  simp only at hx hy ha hb
  have hp : 0 < 2 ^ W := Nat.two_pow_pos W
  have hh := half_split W h1
  have hv : 0 < 2 ^ (W - 1) := Nat.two_pow_pos _
  have whole : ∀ n, n < 2 ^ W → Sound W (0, 2 ^ W - 1) n := fun n hn => ⟨Nat.zero_le _, by simp only; omega, Nat.le_refl _⟩
  have hlt := apply_lt op h1 (show a < 2 ^ W by omega) (show b < 2 ^ W by omega)
  rcases op_cases ho with rfl | rfl | rfl | rfl | rfl | rfl | rfl | rfl | rfl | rfl | rfl | rfl | rfl | rfl | rfl
  · simp [tableN, applyN, Sound]
    generalize 2 ^ W = P at *
    omega
  · simp only [tableN, applyN]
    simp only [show ¬ (8 : Int) = 5 by decide, show ¬ (8 : Int) = 9 by decide, if_false, if_true]
    by_cases c : (2 ^ W ≤ x0 + y0 ↔ 2 ^ W ≤ x1 + y1)
    · rw [if_pos c]
      have m : ∀ s, s < 2 ^ W → s % 2 ^ W = s := fun s h => Nat.mod_eq_of_lt h
      have m' : ∀ s, 2 ^ W ≤ s → s < 2 ^ W + 2 ^ W → s % 2 ^ W = s - 2 ^ W := fun s h h' => by rw [Nat.mod_eq_sub_mod h]; exact m _ (by omega)
      by_cases d : 2 ^ W ≤ x0 + y0
      · rw [m' _ d (by omega), m' _ (c.1 d) (by omega), m' (a + b) (by omega) (by omega), right_of ⟨by simp only; omega, by simp only; omega⟩]
        exact ⟨by simp only; omega, by simp only; omega, by simp only; omega⟩
      · have e : ¬ 2 ^ W ≤ x1 + y1 := fun h => d (c.2 h)
        rw [m _ (by omega), m _ (by omega), m (a + b) (by omega), right_of ⟨by simp only; omega, by simp only; omega⟩]
        exact ⟨by simp only; omega, by simp only; omega, by simp only; omega⟩
    · rw [if_neg c]; exact whole _ (Nat.mod_lt _ hp)
  · simp only [tableN, applyN]
    simp only [show ¬ (9 : Int) = 5 by decide, show ¬ (9 : Int) = 8 by decide, if_false, if_true]
    by_cases c : (x0 < y1 ↔ x1 < y0)
    · rw [if_pos c]
      have m : ∀ s, s < 2 ^ W → s % 2 ^ W = s := fun s h => Nat.mod_eq_of_lt h
      have m' : ∀ s, 2 ^ W ≤ s → s < 2 ^ W + 2 ^ W → s % 2 ^ W = s - 2 ^ W := fun s h h' => by rw [Nat.mod_eq_sub_mod h]; exact m _ (by omega)
      by_cases d : x0 < y1
      · have e := c.1 d
        rw [m _ (by omega), m _ (by omega), m (a + (2 ^ W - b)) (by omega), right_of ⟨by simp only; omega, by simp only; omega⟩]
        exact ⟨by simp only; omega, by simp only; omega, by simp only; omega⟩
      · have e : ¬ x1 < y0 := fun h => d (c.2 h)
        rw [m' _ (by omega) (by omega), m' _ (by omega) (by omega), m' (a + (2 ^ W - b)) (by omega) (by omega), right_of ⟨by simp only; omega, by simp only; omega⟩]
        exact ⟨by simp only; omega, by simp only; omega, by simp only; omega⟩
    · rw [if_neg c]; exact whole _ (Nat.mod_lt _ hp)
  · simp only [tableN, applyN]
    simp only [show ¬ (10 : Int) = 5 by decide, show ¬ (10 : Int) = 8 by decide, show ¬ (10 : Int) = 9 by decide, if_false, if_true]
    by_cases c : x1 * y1 < 2 ^ W
    · rw [if_pos c]
      have u1 := Nat.mul_le_mul ha.1 hb.1
      have u2 := Nat.mul_le_mul ha.2 hb.2
      rw [Nat.mod_eq_of_lt (by omega)]
      exact ⟨u1, u2, by simp only; omega⟩
    · rw [if_neg c]; exact whole _ (Nat.mod_lt _ hp)
  · simp only [tableN, applyN] at hlt ⊢
    simp only [show ¬ (11 : Int) = 5 by decide, show ¬ (11 : Int) = 8 by decide, show ¬ (11 : Int) = 9 by decide, show ¬ (11 : Int) = 10 by decide, if_false, if_true] at hlt ⊢
    by_cases c : y0 = 0
    · rw [if_pos c]; exact whole _ hlt
    · rw [if_neg c, if_neg (by omega)]
      have u1 : x0 / y1 ≤ a / b := Nat.div_le_div ha.1 hb.2 (by omega)
      have u2 : a / b ≤ x1 / y0 := Nat.div_le_div ha.2 hb.1 c
      have u3 : x1 / y0 ≤ x1 := Nat.div_le_self _ _
      exact ⟨u1, u2, by simp only; omega⟩
  · simp only [tableN, applyN]
    simp only [show ¬ (12 : Int) = 5 by decide, show ¬ (12 : Int) = 8 by decide, show ¬ (12 : Int) = 9 by decide, show ¬ (12 : Int) = 10 by decide, show ¬ (12 : Int) = 11 by decide, if_false, if_true]
    have u1 : a % b ≤ a := Nat.mod_le _ _
    by_cases c : x1 < y0
    · rw [if_pos c, if_neg (by omega), Nat.mod_eq_of_lt (by omega)]
      exact ⟨ha.1, ha.2, hx.2⟩
    · rw [if_neg c]
      by_cases d : y0 = 0
      · rw [if_pos d]
        refine ⟨Nat.zero_le _, ?_, hx.2⟩
        simp only
        split <;> omega
      · rw [if_neg d, if_neg (by omega)]
        have u2 : a % b < b := Nat.mod_lt _ (by omega)
        exact ⟨Nat.zero_le _, by simp only; omega, by simp only; omega⟩
  · simp only [tableN, applyN]
    simp only [show ¬ (13 : Int) = 5 by decide, show ¬ (13 : Int) = 8 by decide, show ¬ (13 : Int) = 9 by decide, show ¬ (13 : Int) = 10 by decide, show ¬ (13 : Int) = 11 by decide, show ¬ (13 : Int) = 12 by decide, if_false, if_true]
    have u1 : a &&& b ≤ a := Nat.and_le_left
    have u2 : a &&& b ≤ b := Nat.and_le_right
    exact ⟨Nat.zero_le _, by simp only; omega, by simp only; omega⟩
  · simp only [tableN, applyN]
    simp only [show ¬ (14 : Int) = 5 by decide, show ¬ (14 : Int) = 8 by decide, show ¬ (14 : Int) = 9 by decide, show ¬ (14 : Int) = 10 by decide, show ¬ (14 : Int) = 11 by decide, show ¬ (14 : Int) = 12 by decide, show ¬ (14 : Int) = 13 by decide, if_false, if_true]
    have u1 : a ≤ a ||| b := Nat.left_le_or
    have u2 : b ≤ a ||| b := Nat.right_le_or
    exact ⟨by simp only; omega, or_full _ _ _ _ ha.2 hb.2, full_le hx.2 hy.2⟩
  · simp only [tableN, applyN]
    simp only [show ¬ (15 : Int) = 5 by decide, show ¬ (15 : Int) = 8 by decide, show ¬ (15 : Int) = 9 by decide, show ¬ (15 : Int) = 10 by decide, show ¬ (15 : Int) = 11 by decide, show ¬ (15 : Int) = 12 by decide, show ¬ (15 : Int) = 13 by decide, show ¬ (15 : Int) = 14 by decide, if_false, if_true]
    exact ⟨Nat.zero_le _, xor_full _ _ _ _ ha.2 hb.2, full_le hx.2 hy.2⟩
  · simp [tableN, applyN] at hlt ⊢
    by_cases c : y1 < W ∧ x1 * 2 ^ y1 < 2 ^ W
    · rw [if_pos c, if_neg (by omega)]
      have u1 : x0 * 2 ^ y0 ≤ a * 2 ^ b := Nat.mul_le_mul ha.1 (Nat.pow_le_pow_right (by decide) hb.1)
      have u2 : a * 2 ^ b ≤ x1 * 2 ^ y1 := Nat.mul_le_mul ha.2 (Nat.pow_le_pow_right (by decide) hb.2)
      rw [Nat.mod_eq_of_lt (by omega)]
      exact ⟨u1, u2, by simp only; omega⟩
    · rw [if_neg c]; exact whole _ hlt
  · have e : applyN 17 W a b = downN W a b := by simp [applyN, downN]
    rw [e]
    simp [tableN]
    exact ⟨down_mono ha.1 hb.2, down_mono ha.2 hb.1, Nat.le_trans (down_le _ _ _) hx.2⟩
  · have e : applyN 18 W a b = sarN W a b := by simp [applyN]
    rw [e] at hlt ⊢
    simp [tableN]
    by_cases c : 2 ^ (W - 1) ≤ x1
    · rw [if_pos c]; exact whole _ hlt
    · rw [if_neg c]
      have e2 : sarN W a b = downN W a b := by unfold sarN downN; rw [if_neg (by omega)]
      rw [e2]
      exact ⟨down_mono ha.1 hb.2, down_mono ha.2 hb.1, Nat.le_trans (down_le _ _ _) hx.2⟩
  · simp [tableN, applyN]
    refine truth_sound h1 _ _ (a = b) (by simp) (fun h => ?_)
    simp at h
    omega
  · simp [tableN, applyN]
    refine truth_sound h1 _ _ (a < b) (fun h => ?_) (fun h => ?_)
    · simp at h; omega
    · simp at h; omega
  · simp [tableN, applyN, belowN]
    have e : lessS W a b = true ↔ (if 2 ^ (W - 1) ≤ a then (if 2 ^ (W - 1) ≤ b then a < b else True) else (if 2 ^ (W - 1) ≤ b then False else a < b)) := by
      unfold lessS
      split <;> split <;> simp
    by_cases c1 : x1 < 2 ^ (W - 1) ∧ y1 < 2 ^ (W - 1)
    · rw [if_pos c1]
      refine truth_sound h1 _ _ (lessS W a b = true) (fun h => ?_) (fun h => ?_)
      · rw [e, if_neg (by omega), if_neg (by omega)]; simp at h; omega
      · rw [e, if_neg (by omega), if_neg (by omega)]; simp at h; omega
    · rw [if_neg c1]
      by_cases c2 : 2 ^ (W - 1) ≤ x0 ∧ 2 ^ (W - 1) ≤ y0
      · rw [if_pos c2]
        refine truth_sound h1 _ _ (lessS W a b = true) (fun h => ?_) (fun h => ?_)
        · rw [e, if_pos (by omega), if_pos (by omega)]; simp at h; omega
        · rw [e, if_pos (by omega), if_pos (by omega)]; simp at h; omega
      · rw [if_neg c2]
        refine truth_sound h1 _ _ (lessS W a b = true) (fun h => ?_) (fun h => ?_)
        · simp at h; rw [e, if_pos (by omega), if_neg (by omega)]; trivial
        · simp at h; rw [e, if_neg (by omega), if_pos (by omega)]; simp

/-- Wider. -/
def Wider (t s : Nat × Nat) : Prop := t.1 ≤ s.1 ∧ s.2 ≤ t.2
theorem truth_grows (yes no yes' no' : Bool) (h : yes' = true → yes = true) (h' : yes' = false → no' = true → yes = false ∧ no = true) : Wider (truthN yes' no') (truthN yes no) := by
  unfold Wider truthN
  cases yes' <;> cases no' <;> cases yes <;> cases no <;> simp at h h' ⊢

theorem ok_ge {W : Nat} {s : Nat × Nat} (h : Ok W s) : Wider (0, 2 ^ W - 1) s := ⟨Nat.zero_le _, h.2⟩
theorem table_ok {op : Int} (ho : isOp op) {W : Nat} (h1 : 1 ≤ W) {x y : Nat × Nat} (hx : Ok W x) (hy : Ok W y) : Ok W (tableN op W x y) := by
  obtain ⟨a, b, c⟩ := table_sound ho h1 hx hy (a := x.1) (b := y.1) ⟨Nat.le_refl _, hx.1⟩ ⟨Nat.le_refl _, hy.1⟩
  exact ⟨Nat.le_trans a b, c⟩
theorem table_grows {op : Int} (ho : isOp op) {W : Nat} (h1 : 1 ≤ W) {x y x' y' : Nat × Nat} (hx : Ok W x) (hy : Ok W y) (hx' : Ok W x') (hy' : Ok W y') (gx : Wider x' x) (gy : Wider y' y) : Wider (tableN op W x' y') (tableN op W x y) := by
  have hok := table_ok ho h1 hx hy
  have hw := ok_ge hok
  obtain ⟨x0, x1⟩ := x
  obtain ⟨y0, y1⟩ := y
  obtain ⟨u0, u1⟩ := x'
  obtain ⟨v0, v1⟩ := y'
  unfold Ok at hx hy hx' hy'
  unfold Wider at gx gy
  simp only at hx hy hx' hy' gx gy
  have hp : 0 < 2 ^ W := Nat.two_pow_pos W
  have hh := half_split W h1
  have hv : 0 < 2 ^ (W - 1) := Nat.two_pow_pos _
  have m : ∀ s, s < 2 ^ W → s % 2 ^ W = s := fun s h => Nat.mod_eq_of_lt h
  have m' : ∀ s, 2 ^ W ≤ s → s < 2 ^ W + 2 ^ W → s % 2 ^ W = s - 2 ^ W := fun s h h' => by rw [Nat.mod_eq_sub_mod h]; exact m _ (by omega)
  rcases op_cases ho with rfl | rfl | rfl | rfl | rfl | rfl | rfl | rfl | rfl | rfl | rfl | rfl | rfl | rfl | rfl
  · simp [tableN, Wider]
    omega
  · simp only [tableN, show ¬ (8 : Int) = 5 by decide, if_false, if_true] at hw ⊢
    by_cases c : (2 ^ W ≤ u0 + v0 ↔ 2 ^ W ≤ u1 + v1)
    · rw [if_pos c]
      by_cases d : 2 ^ W ≤ u0 + v0
      · have d1 := c.1 d
        rw [if_pos (show (2 ^ W ≤ x0 + y0 ↔ 2 ^ W ≤ x1 + y1) by omega)]
        rw [m' (u0 + v0) d (by omega), m' (u1 + v1) d1 (by omega), m' (x0 + y0) (by omega) (by omega), m' (x1 + y1) (by omega) (by omega), right_of ⟨by simp only; omega, by simp only; omega⟩, right_of ⟨by simp only; omega, by simp only; omega⟩]
        exact ⟨by simp only; omega, by simp only; omega⟩
      · have e : ¬ 2 ^ W ≤ u1 + v1 := fun h => d (c.2 h)
        rw [if_pos (show (2 ^ W ≤ x0 + y0 ↔ 2 ^ W ≤ x1 + y1) by omega)]
        rw [m (u0 + v0) (by omega), m (u1 + v1) (by omega), m (x0 + y0) (by omega), m (x1 + y1) (by omega), right_of ⟨by simp only; omega, by simp only; omega⟩, right_of ⟨by simp only; omega, by simp only; omega⟩]
        exact ⟨by simp only; omega, by simp only; omega⟩
    · rw [if_neg c]; exact hw
  · simp only [tableN, show ¬ (9 : Int) = 5 by decide, show ¬ (9 : Int) = 8 by decide, if_false, if_true] at hw ⊢
    by_cases c : (u0 < v1 ↔ u1 < v0)
    · rw [if_pos c]
      by_cases d : u0 < v1
      · have d1 := c.1 d
        rw [if_pos (show (x0 < y1 ↔ x1 < y0) by omega)]
        rw [m (u0 + (2 ^ W - v1)) (by omega), m (u1 + (2 ^ W - v0)) (by omega), m (x0 + (2 ^ W - y1)) (by omega), m (x1 + (2 ^ W - y0)) (by omega), right_of ⟨by simp only; omega, by simp only; omega⟩, right_of ⟨by simp only; omega, by simp only; omega⟩]
        exact ⟨by simp only; omega, by simp only; omega⟩
      · have e : ¬ u1 < v0 := fun h => d (c.2 h)
        rw [if_pos (show (x0 < y1 ↔ x1 < y0) by omega)]
        rw [m' (u0 + (2 ^ W - v1)) (by omega) (by omega), m' (u1 + (2 ^ W - v0)) (by omega) (by omega), m' (x0 + (2 ^ W - y1)) (by omega) (by omega), m' (x1 + (2 ^ W - y0)) (by omega) (by omega), right_of ⟨by simp only; omega, by simp only; omega⟩, right_of ⟨by simp only; omega, by simp only; omega⟩]
        exact ⟨by simp only; omega, by simp only; omega⟩
    · rw [if_neg c]; exact hw
  · simp only [tableN, show ¬ (10 : Int) = 5 by decide, show ¬ (10 : Int) = 8 by decide, show ¬ (10 : Int) = 9 by decide, if_false, if_true] at hw ⊢
    by_cases c : u1 * v1 < 2 ^ W
    · have k1 : x1 * y1 ≤ u1 * v1 := Nat.mul_le_mul gx.2 gy.2
      rw [if_pos c, if_pos (by omega)]
      exact ⟨Nat.mul_le_mul gx.1 gy.1, k1⟩
    · rw [if_neg c]; exact hw
  · simp only [tableN, show ¬ (11 : Int) = 5 by decide, show ¬ (11 : Int) = 8 by decide, show ¬ (11 : Int) = 9 by decide, show ¬ (11 : Int) = 10 by decide, if_false, if_true] at hw ⊢
    by_cases c : v0 = 0
    · rw [if_pos c]; exact hw
    · rw [if_neg c, if_neg (by omega)]
      exact ⟨Nat.div_le_div gx.1 gy.2 (by omega), Nat.div_le_div gx.2 gy.1 c⟩
  · simp only [tableN, show ¬ (12 : Int) = 5 by decide, show ¬ (12 : Int) = 8 by decide, show ¬ (12 : Int) = 9 by decide, show ¬ (12 : Int) = 10 by decide, show ¬ (12 : Int) = 11 by decide, if_false, if_true] at hw ⊢
    unfold Wider
    split <;> split <;> (try split) <;> (try split) <;> simp only <;> omega
  · simp [tableN, Wider]
    omega
  · simp [tableN, Wider]
    exact ⟨by omega, full_mono gx.2 gy.2⟩
  · simp [tableN, Wider]
    exact full_mono gx.2 gy.2
  · simp [tableN] at hw ⊢
    by_cases c : v1 < W ∧ u1 * 2 ^ v1 < 2 ^ W
    · have k1 : x1 * 2 ^ y1 ≤ u1 * 2 ^ v1 := Nat.mul_le_mul gx.2 (Nat.pow_le_pow_right (by decide) gy.2)
      rw [if_pos c, if_pos (by omega)]
      exact ⟨Nat.mul_le_mul gx.1 (Nat.pow_le_pow_right (by decide) gy.1), k1⟩
    · rw [if_neg c]; exact hw
  · simp [tableN]
    exact ⟨down_mono gx.1 gy.2, down_mono gx.2 gy.1⟩
  · simp [tableN] at hw ⊢
    by_cases c : 2 ^ (W - 1) ≤ u1
    · rw [if_pos c]; exact hw
    · rw [if_neg c, if_neg (by omega)]
      exact ⟨down_mono gx.1 gy.2, down_mono gx.2 gy.1⟩
  · simp [tableN]
    refine truth_grows _ _ _ _ (by simp) (fun _ h => ?_)
    simp at h ⊢
    omega
  · simp [tableN]
    refine truth_grows _ _ _ _ (fun h => ?_) (fun _ h => ?_)
    · simp at h ⊢; omega
    · simp at h ⊢; omega
  · simp [tableN, belowN]
    by_cases c1 : u1 < 2 ^ (W - 1) ∧ v1 < 2 ^ (W - 1)
    · rw [if_pos c1, if_pos (by omega)]
      refine truth_grows _ _ _ _ (fun h => ?_) (fun _ h => ?_)
      · simp at h ⊢; omega
      · simp at h ⊢; omega
    · rw [if_neg c1]
      by_cases c2 : 2 ^ (W - 1) ≤ u0 ∧ 2 ^ (W - 1) ≤ v0
      · rw [if_pos c2, if_neg (by omega), if_pos (by omega)]
        refine truth_grows _ _ _ _ (fun h => ?_) (fun _ h => ?_)
        · simp at h ⊢; omega
        · simp at h ⊢; omega
      · rw [if_neg c2]
        by_cases d1 : x1 < 2 ^ (W - 1) ∧ y1 < 2 ^ (W - 1)
        · rw [if_pos d1]
          refine truth_grows _ _ _ _ (fun h => ?_) (fun _ h => ?_)
          · simp at h ⊢; omega
          · simp at h ⊢; omega
        · rw [if_neg d1]
          by_cases d2 : 2 ^ (W - 1) ≤ x0 ∧ 2 ^ (W - 1) ≤ y0
          · rw [if_pos d2]
            refine truth_grows _ _ _ _ (fun h => ?_) (fun _ h => ?_)
            · simp at h ⊢; omega
            · simp at h ⊢; omega
          · rw [if_neg d2]
            refine truth_grows _ _ _ _ (fun h => ?_) (fun _ h => ?_)
            · simp at h ⊢; omega
            · simp at h ⊢; omega

end Go.Proofs.Ytidabafobpbniaa.Pure
