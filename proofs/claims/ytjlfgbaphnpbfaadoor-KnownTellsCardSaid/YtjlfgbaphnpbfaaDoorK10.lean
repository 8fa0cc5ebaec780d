/- KnownTells: rows of bits that are known, as two numbers. -/
import Derived.Test.YtjlfgbaphnpbfaaDoorK9
import Derived.Test.YtjlfgbaphnpbfaaDoorK34
open Go Go.Proofs Go.RowKit
namespace Go.Proofs.YtjlfgbaphnpbfaaDoor.Sx.M5
set_option linter.unusedVariables false
set_option linter.unusedSimpArgs false
/-- A place of a row, of two numbers: which bits are known to be 0, which 1. -/
def pt (z o : Nat) (j : Nat) : Int := if o.testBit j = true then 1 else if z.testBit j = true then 0 else 2
def RowIs (r : Nat → Int) (z o : Nat) : Prop := ∀ j, j < 64 → r j = pt z o j
def Dj (z o : Nat) : Prop := ∀ j, z.testBit j = true → o.testBit j = false
structure OkB (W z o : Nat) : Prop where
  lz : z < 2 ^ W
  lo : o < 2 ^ W
  dj : Dj z o
theorem bit_hi {W x j : Nat} (h : x < 2 ^ W) (hj : W ≤ j) : x.testBit j = false := Nat.testBit_lt_two_pow (Nat.lt_of_lt_of_le h (Nat.pow_le_pow_right (by decide) hj))
theorem upd_at {α : Type} {f : Nat → α} {i j : Nat} {x : α} : upd f i x j = if j = i then x else f j := rfl
theorem qnon_is : RowIs qnon_s 0 0 := by
  have key : ∀ (m i : Nat) (f : Nat → Int), (∀ j, j < i → f j = 2) → i ≤ 64 → 64 - i < m → ∀ j, j < 64 → qnon_l0 m f i j = 2 := by
    intro m
    induction m with
    | zero => intro i f _ _ hm; exact absurd hm (Nat.not_lt_zero _)
    | succ m ih =>
      intro i f hf hi hm j hj
      rw [qnon_l0]
      by_cases h : (i : Int) < 64
      · rw [decide_eq_true h, Int.toNat_natCast]
        refine ih (i + 1) _ (fun k hk => ?_) (by omega) (by omega) j hj
        rw [upd_at]; split
        · rfl
        · exact hf k (by omega)
      · rw [decide_eq_false h]; exact hf j (by omega)
  intro j hj
  unfold qnon_s
  rw [show pt 0 0 j = 2 by unfold pt; simp]
  exact key _ 0 _ (fun j hj => absurd hj (Nat.not_lt_zero _)) (by decide) (by decide) j hj
theorem qof_is {w z e : Int} {W z0 e0 : Nat} (hw : w = W) (hW : W ≤ 64) (hz : z0 < 2 ^ 64) (he : e0 < 2 ^ 64) (h1 : z = z0) (h2 : e = e0) :
    (Dj (z0 % 2 ^ W) (e0 % 2 ^ W) → RowIs (qof_s w z e) (z0 % 2 ^ W) (e0 % 2 ^ W)) ∧ (¬ Dj (z0 % 2 ^ W) (e0 % 2 ^ W) → RowIs (qof_s w z e) 0 0) := by
  have hZ := rof_is hw hW hz h1
  have hE := rof_is hw hW he h2
  have hZl : z0 % 2 ^ W < 2 ^ 64 := Nat.lt_of_le_of_lt (Nat.mod_le _ _) hz
  generalize z0 % 2 ^ W = Z at *
  generalize e0 % 2 ^ W = E at *
  have l1 : ∀ (m i : Nat) (f : Nat → Int), (∀ j, j < i → f j = 2) → i ≤ 64 → 64 - i < m → ∀ j, j < 64 → qof_l1 w z e m f i j = 2 := by
    intro m
    induction m with
    | zero => intro i f _ _ hm; exact absurd hm (Nat.not_lt_zero _)
    | succ m ih =>
      intro i f hf hi hm j hj
      rw [qof_l1]
      by_cases h : (i : Int) < 64
      · rw [decide_eq_true h, Int.toNat_natCast]
        refine ih (i + 1) _ (fun k hk => ?_) (by omega) (by omega) j hj
        rw [upd_at]; split
        · rfl
        · exact hf k (by omega)
      · rw [decide_eq_false h]; exact hf j (by omega)
  have key : ∀ (m i : Nat) (f : Nat → Int) (bo : Bool), (∀ j, j < i → f j = pt Z E j) → (bo = true ↔ ∃ j, j < i ∧ Z.testBit j = true ∧ E.testBit j = true) → i ≤ 64 → 64 - i < m →
      ((∃ j, j < 64 ∧ Z.testBit j = true ∧ E.testBit j = true) → ∀ j, j < 64 → qof_l0 w z e m f i bo j = 2) ∧ ((¬ ∃ j, j < 64 ∧ Z.testBit j = true ∧ E.testBit j = true) → ∀ j, j < 64 → qof_l0 w z e m f i bo j = pt Z E j) := by
    intro m
    induction m with
    | zero => intro i f bo _ _ _ hm; exact absurd hm (Nat.not_lt_zero _)
    | succ m ih =>
      intro i f bo hf hb hi hm
      rw [qof_l0]
      by_cases h : (i : Int) < 64
      · rw [decide_eq_true h, Int.toNat_natCast, hZ i (by omega), hE i (by omega)]
        simp only [cond_true]
        rw [show ((i : Int) + 1) = ((i + 1 : Nat) : Int) from rfl]
        have step : ∀ (g : Nat → Int) (b2 : Bool), (∀ j, j < i → g j = f j) → g i = pt Z E i → (b2 = (bo || (Z.testBit i && E.testBit i))) → ((∃ j, j < 64 ∧ Z.testBit j = true ∧ E.testBit j = true) → ∀ j, j < 64 → qof_l0 w z e m g ((i + 1 : Nat) : Int) b2 j = 2) ∧ ((¬ ∃ j, j < 64 ∧ Z.testBit j = true ∧ E.testBit j = true) → ∀ j, j < 64 → qof_l0 w z e m g ((i + 1 : Nat) : Int) b2 j = pt Z E j) := fun g b2 hg hgi hb2 => by
          refine ih (i + 1) g b2 (fun j hj => ?_) ?_ (by omega) (by omega)
          · by_cases c : j = i
            · rw [c]; exact hgi
            · rw [hg j (by omega)]; exact hf j (by omega)
          · rw [hb2, Bool.or_eq_true, hb, Bool.and_eq_true]
            constructor
            · rintro (⟨j, hj, h1, h2⟩ | ⟨h1, h2⟩)
              · exact ⟨j, by omega, h1, h2⟩
              · exact ⟨i, by omega, h1, h2⟩
            · rintro ⟨j, hj, h1, h2⟩
              by_cases c : j = i
              · subst c; exact .inr ⟨h1, h2⟩
              · exact .inl ⟨j, by omega, h1, h2⟩
        have ne : ∀ j, j < i → ¬ j = i := fun j hj => by omega
        cases hz : Z.testBit i <;> cases he : E.testBit i <;> cases bo <;> simp only [cond_true, cond_false] <;> refine step _ _ (fun j hj => by simp only [upd_at, if_neg (ne j hj)]) (by simp [upd_at, pt, hz, he]) (by rw [hz, he]; rfl)
      · rw [decide_eq_false h]
        obtain rfl : i = 64 := by omega
        cases bo with
        | true =>
          simp only [cond_true, cond_false]
          have q := l1 ((64 - ((0) : Int)).toNat + 1) 0 f (fun j hj => absurd hj (Nat.not_lt_zero _)) (by decide) (by decide)
          rw [show ((0 : Nat) : Int) = 0 from rfl] at q
          exact ⟨fun _ => q, fun hn => absurd (hb.1 rfl) hn⟩
        | false =>
          simp only [cond_false]
          refine ⟨fun hy => ?_, fun _ j hj => hf j hj⟩
          have := hb.2 hy
          cases this
  have k0 := key ((64 - ((0) : Int)).toNat + 1) 0 (fun _ => 0) false (fun j hj => absurd hj (Nat.not_lt_zero _)) ⟨fun h => absurd h (by decide), fun hh => (let ⟨j, hj, _⟩ := hh; absurd hj (Nat.not_lt_zero _))⟩ (by decide) (by decide)
  rw [show ((0 : Nat) : Int) = 0 from rfl] at k0
  unfold qof_s
  generalize ((64 - ((0) : Int)).toNat + 1) = fuel at k0 ⊢
  constructor
  · intro hd j hj
    refine k0.2 ?_ j hj
    rintro ⟨k, _, hk1, hk2⟩
    rw [hd k hk1] at hk2
    cases hk2
  · intro hd j hj
    rw [show pt 0 0 j = 2 by unfold pt; simp]
    refine k0.1 ?_ j hj
    apply Classical.byContradiction
    intro hn
    refine hd fun k hk => ?_
    cases hE2 : E.testBit k with
    | false => rfl
    | true =>
      exfalso
      by_cases hk64 : k < 64
      · exact hn ⟨k, hk64, hk, hE2⟩
      · rw [bit_hi hZl (by omega)] at hk; cases hk
theorem qbit_is {r : Nat → Int} {z o : Nat} (h : RowIs r z o) (hd : Dj z o) (hz : z < 2 ^ 64) (ho : o < 2 ^ 64) : qbit_s r = ((z : Int), (o : Int)) := by
  have e0 : ∀ j, j < 64 → (r j == (0 : Int)) = z.testBit j := fun j hj => by
    rw [h j hj]
    unfold pt
    cases hz : z.testBit j with
    | true => rw [hd j hz]; rfl
    | false => cases o.testBit j <;> rfl
  have e1 : ∀ j, j < 64 → (r j == (1 : Int)) = o.testBit j := fun j hj => by
    rw [h j hj]
    unfold pt
    cases o.testBit j with
    | true => rfl
    | false => cases z.testBit j <;> rfl
  have key : ∀ (m i : Nat) (f g : Nat → Bool), (∀ j, j < i → f j = z.testBit j) → (∀ j, j < i → g j = o.testBit j) → i ≤ 64 → 64 - i < m → qbit_l0 r m f g i = ((z : Int), (o : Int)) := by
    intro m
    induction m with
    | zero => intro i f g _ _ _ hm; exact absurd hm (Nat.not_lt_zero _)
    | succ m ih =>
      intro i f g hf hg hi hm
      rw [qbit_l0]
      by_cases c : (i : Int) < 64
      · rw [decide_eq_true c, Int.toNat_natCast, e0 i (by omega), e1 i (by omega)]
        refine ih (i + 1) _ _ (fun j hj => ?_) (fun j hj => ?_) (by omega) (by omega)
        · rw [upd_at]; split
          · rename_i q; rw [q]
          · exact hf j (by omega)
        · rw [upd_at]; split
          · rename_i q; rw [q]
          · exact hg j (by omega)
      · rw [decide_eq_false c]
        obtain rfl : i = 64 := by omega
        show (rnum_s f, rnum_s g) = _
        rw [rnum_is hf hz, rnum_is hg ho]
  unfold qbit_s
  exact key _ 0 _ _ (fun j hj => absurd hj (Nat.not_lt_zero _)) (fun j hj => absurd hj (Nat.not_lt_zero _)) (by decide) (by decide)
theorem qwrd_is {w x : Int} {W x0 : Nat} (hw : w = W) (hW : W ≤ 64) (hx : x0 < 2 ^ 64) (h : x = x0) : RowIs (qwrd_s w x) (2 ^ W - 1 - x0 % 2 ^ W) (x0 % 2 ^ W) := by
  have hX := rof_is hw hW hx h
  have hX2 : x0 % 2 ^ W < 2 ^ W := Nat.mod_lt _ (Nat.two_pow_pos W)
  generalize x0 % 2 ^ W = X at *
  have hn : (2 ^ W - 1 - X) = notN W X := (notN_eq hX2).symm
  have pv : ∀ j, pt (2 ^ W - 1 - X) X j = if j < W then (if X.testBit j = true then 1 else 0) else 2 := fun j => by
    unfold pt
    rw [hn, notN_bit]
    by_cases c : j < W
    · rw [if_pos c, decide_eq_true c]
      cases X.testBit j <;> rfl
    · rw [if_neg c, decide_eq_false c, bit_hi hX2 (by omega)]
      rfl
  have key : ∀ (m i : Nat) (f : Nat → Int), (∀ j, j < i → f j = pt (2 ^ W - 1 - X) X j) → (∀ j, i ≤ j → j < 64 → f j = 2) → i ≤ W → W - i < m → ∀ j, j < 64 → qwrd_l0 w x m f i j = pt (2 ^ W - 1 - X) X j := by
    intro m
    induction m with
    | zero => intro i f _ _ _ hm; exact absurd hm (Nat.not_lt_zero _)
    | succ m ih =>
      intro i f hf hg hi hm j hj
      rw [qwrd_l0]
      by_cases c : (i : Int) < w
      · rw [decide_eq_true c, Int.toNat_natCast, hX i (by omega)]
        simp only [cond_true]
        rw [show ((i : Int) + 1) = ((i + 1 : Nat) : Int) from rfl]
        have pi := pv i
        rw [if_pos (by omega)] at pi
        cases hb : X.testBit i with
        | true =>
          rw [hb, if_pos rfl] at pi
          refine ih (i + 1) _ (fun k hk => ?_) (fun k hk hk2 => ?_) (by omega) (by omega) j hj
          · rw [upd_at]; split
            · rename_i q; rw [q, pi]
            · rw [upd_at]; rename_i q; rw [if_neg q]; exact hf k (by omega)
          · rw [upd_at, if_neg (by omega), upd_at, if_neg (by omega)]; exact hg k (by omega) hk2
        | false =>
          rw [hb] at pi
          simp only [Bool.false_eq_true, if_false] at pi
          refine ih (i + 1) _ (fun k hk => ?_) (fun k hk hk2 => ?_) (by omega) (by omega) j hj
          · rw [upd_at]; split
            · rename_i q; rw [q, pi]
            · exact hf k (by omega)
          · rw [upd_at, if_neg (by omega)]; exact hg k (by omega) hk2
      · rw [decide_eq_false c]
        obtain rfl : i = W := by omega
        by_cases c2 : j < i
        · exact hf j c2
        · show f j = _
          rw [pv j, if_neg c2, hg j (by omega) hj]
  intro j hj
  unfold qwrd_s
  exact key _ 0 _ (fun j hj => absurd hj (Nat.not_lt_zero _)) (fun k _ hk => by rw [qnon_is k hk]; unfold pt; simp) (Nat.zero_le _) (by omega) j hj
/-- The word of a row's first places, if all are known. -/
theorem qnum_is {w : Int} {W : Nat} (hw : w = W) (hW : W ≤ 64) {r : Nat → Int} {z o : Nat} (h : RowIs r z o) : qnum_s w r = if ∀ j, j < W → r j ≠ 2 then (((o % 2 ^ W : Nat) : Int), true) else (0, false) := by
  have e1 : ∀ j, j < 64 → (r j == (1 : Int)) = o.testBit j := fun j hj => by
    rw [h j hj]
    unfold pt
    cases o.testBit j with
    | true => rfl
    | false => cases z.testBit j <;> rfl
  have key : ∀ (m i : Nat) (f : Nat → Bool), (∀ j, j < i → r j ≠ 2) → Is f (o % 2 ^ i) → i ≤ W → W - i < m → qnum_l0 w r m f i = if ∀ j, j < W → r j ≠ 2 then (((o % 2 ^ W : Nat) : Int), true) else (0, false) := by
    intro m
    induction m with
    | zero => intro i f _ _ _ hm; exact absurd hm (Nat.not_lt_zero _)
    | succ m ih =>
      intro i f hf hg hi hm
      rw [qnum_l0]
      by_cases c : (i : Int) < w
      · rw [decide_eq_true c, Int.toNat_natCast]
        simp only [cond_true]
        by_cases c2 : r i = 2
        · rw [if_neg (fun hh => hh i (by omega) c2), show (r i == (2 : Int)) = true by rw [c2]; rfl]
          rfl
        · rw [show (r i == (2 : Int)) = false from beq_eq_false_iff_ne.2 c2, e1 i (by omega)]
          refine ih (i + 1) _ (fun j hj => ?_) (upd_is hg (fun j _ => mod_step rfl j)) (by omega) (by omega)
          by_cases q : j = i
          · rw [q]; exact c2
          · exact hf j (by omega)
      · rw [decide_eq_false c]
        obtain rfl : i = W := by omega
        rw [if_pos hf]
        have hp : o % 2 ^ i < 2 ^ 64 := Nat.lt_of_lt_of_le (Nat.mod_lt _ (Nat.two_pow_pos i)) (Nat.pow_le_pow_right (by decide) hW)
        show (rnum_s f, true) = _
        rw [rnum_is hg hp]
  unfold qnum_s
  exact key _ 0 _ (fun j hj => absurd hj (Nat.not_lt_zero _)) (by rw [Nat.pow_zero, Nat.mod_one]; exact zero_is) (Nat.zero_le _) (by omega)
end Go.Proofs.YtjlfgbaphnpbfaaDoor.Sx.M5
