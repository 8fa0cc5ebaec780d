/- KnownTells: rows of bits that are known, as two numbers. -/
import Derived.Test.YtdfifogicefkjaaGreatDoorS5
import Derived.Test.YtdfifogicefkjaaGreatDoorKy
open Go Go.Proofs Go.RowKit
namespace Go.Proofs.YtdfifogicefkjaaGreatDoor.Sx.M5
set_option linter.unusedVariables false
set_option linter.unusedSimpArgs false
/-- A place of a row, of two numbers: which bits are known to be 0, which 1. -/
def pt (z o : Nat) (j : Nat) : Int := if o.testBit j = true then 1 else if z.testBit j = true then 0 else 2
def RowIs (r : Nat → Int) (z o : Nat) : Prop := ∀ j, j < 64 → r j = pt z o j
def Dj (z o : Nat) : Prop := ∀ j, z.testBit j = true → o.testBit j = false
structure OkB (W z o : Nat) : Prop where
  lz : z < 2 ^ W
  lo : o < 2 ^ W
  dj : Dj z o
theorem bit_hi {W x j : Nat} (h : x < 2 ^ W) (hj : W ≤ j) : x.testBit j = false := Nat.testBit_lt_two_pow (Nat.lt_of_lt_of_le h (Nat.pow_le_pow_right (by decide) hj))
theorem upd_at {α : Type} {f : Nat → α} {i j : Nat} {x : α} : upd f i x j = if j = i then x else f j := rfl
theorem qnon_is : RowIs qnon_s 0 0 := by
  have key : ∀ (m i : Nat) (f : Nat → Int), (∀ j, j < i → f j = 2) → i ≤ 64 → 64 - i < m → ∀ j, j < 64 → qnon_l0 m f i j = 2 := by
    intro m
    induction m with
    | zero => intro i f _ _ hm; exact absurd hm (Nat.not_lt_zero _)
    | succ m ih =>
      intro i f hf hi hm j hj
      rw [qnon_l0]
      by_cases h : (i : Int) < 64
      · rw [decide_eq_true h, Int.toNat_natCast]
        refine ih (i + 1) _ (fun k hk => ?_) (by omega) (by omega) j hj
        rw [upd_at]; split
        · rfl
        · exact hf k (by omega)
      · rw [decide_eq_false h]; exact hf j (by omega)
  intro j hj
  unfold qnon_s
  rw [show pt 0 0 j = 2 by unfold pt; simp]
  exact key _ 0 _ (fun j hj => absurd hj (Nat.not_lt_zero _)) (by decide) (by decide) j hj
theorem qof_is {w z e : Int} {W z0 e0 : Nat} (hw : w = W) (hW : W ≤ 64) (hz : z0 < 2 ^ 64) (he : e0 < 2 ^ 64) (h1 : z = z0) (h2 : e = e0) :
    (Dj (z0 % 2 ^ W) (e0 % 2 ^ W) → RowIs (qof_s w z e) (z0 % 2 ^ W) (e0 % 2 ^ W)) ∧ (¬ Dj (z0 % 2 ^ W) (e0 % 2 ^ W) → RowIs (qof_s w z e) 0 0) := by
  have hZ := rof_is hw hW hz h1
  have hE := rof_is hw hW he h2
  have hZl : z0 % 2 ^ W < 2 ^ 64 := Nat.lt_of_le_of_lt (Nat.mod_le _ _) hz
  generalize z0 % 2 ^ W = Z at *
  generalize e0 % 2 ^ W = E at *
  have l1 : ∀ (m i : Nat) (f : Nat → Int), (∀ j, j < i → f j = 2) → i ≤ 64 → 64 - i < m → ∀ j, j < 64 → qof_l1 w z e m f i j = 2 := by
    intro m
    induction m with
    | zero => intro i f _ _ hm; exact absurd hm (Nat.not_lt_zero _)
    | succ m ih =>
      intro i f hf hi hm j hj
      rw [qof_l1]
      by_cases h : (i : Int) < 64
      · rw [decide_eq_true h, Int.toNat_natCast]
        refine ih (i + 1) _ (fun k hk => ?_) (by omega) (by omega) j hj
        rw [upd_at]; split
        · rfl
        · exact hf k (by omega)
      · rw [decide_eq_false h]; exact hf j (by omega)
  have key : ∀ (m i : Nat) (f : Nat → Int) (bo : Bool), (∀ j, j < i → f j = pt Z E j) → (bo = true ↔ ∃ j, j < i ∧ Z.testBit j = true ∧ E.testBit j = true) → i ≤ 64 → 64 - i < m →
      ((∃ j, j < 64 ∧ Z.testBit j = true ∧ E.testBit j = true) → ∀ j, j < 64 → qof_l0 w z e m f i bo j = 2) ∧ ((¬ ∃ j, j < 64 ∧ Z.testBit j = true ∧ E.testBit j = true) → ∀ j, j < 64 → qof_l0 w z e m f i bo j = pt Z E j) := by
    intro m
    induction m with
    | zero => intro i f bo _ _ _ hm; exact absurd hm (Nat.not_lt_zero _)
    | succ m ih =>
      intro i f bo hf hb hi hm
      rw [qof_l0]
      by_cases h : (i : Int) < 64
      · rw [decide_eq_true h, Int.toNat_natCast, hZ i (by omega), hE i (by omega)]
        simp only [cond_true]
        rw [show ((i : Int) + 1) = ((i + 1 : Nat) : Int) from rfl]
        have step : ∀ (g : Nat → Int) (b2 : Bool), (∀ j, j < i → g j = f j) → g i = pt Z E i → (b2 = (bo || (Z.testBit i && E.testBit i))) → ((∃ j, j < 64 ∧ Z.testBit j = true ∧ E.testBit j = true) → ∀ j, j < 64 → qof_l0 w z e m g ((i + 1 : Nat) : Int) b2 j = 2) ∧ ((¬ ∃ j, j < 64 ∧ Z.testBit j = true ∧ E.testBit j = true) → ∀ j, j < 64 → qof_l0 w z e m g ((i + 1 : Nat) : Int) b2 j = pt Z E j) := fun g b2 hg hgi hb2 => by
          refine ih (i + 1) g b2 (fun j hj => ?_) ?_ (by omega) (by omega)
          · by_cases c : j = i
            · rw [c]; exact hgi
            · rw [hg j (by omega)]; exact hf j (by omega)
          · rw [hb2, Bool.or_eq_true, hb, Bool.and_eq_true]
            constructor
            · rintro (⟨j, hj, h1, h2⟩ | ⟨h1, h2⟩)
              · exact ⟨j, by omega, h1, h2⟩
              · exact ⟨i, by omega, h1, h2⟩
            · rintro ⟨j, hj, h1, h2⟩
              by_cases c : j = i
              · subst c; exact .inr ⟨h1, h2⟩
              · exact .inl ⟨j, by omega, h1, h2⟩
        have ne : ∀ j, j < i → ¬ j = i := fun j hj => by omega
        cases hz : Z.testBit i <;> cases he : E.testBit i <;> cases bo <;> simp only [cond_true, cond_false] <;> refine step _ _ (fun j hj => by simp only [upd_at, if_neg (ne j hj)]) (by simp [upd_at, pt, hz, he]) (by rw [hz, he]; rfl)
      · rw [decide_eq_false h]
        obtain rfl : i = 64 := by omega
        cases bo with
        | true =>
          simp only [cond_true, cond_false]
          have q := l1 ((64 - ((0) : Int)).toNat + 1) 0 f (fun j hj => absurd hj (Nat.not_lt_zero _)) (by decide) (by decide)
          rw [show ((0 : Nat) : Int) = 0 from rfl] at q
          exact ⟨fun _ => q, fun hn => absurd (hb.1 rfl) hn⟩
        | false =>
          simp only [cond_false]
          refine ⟨fun hy => ?_, fun _ j hj => hf j hj⟩
          have := hb.2 hy
          cases this
  have k0 := key ((64 - ((0) : Int)).toNat + 1) 0 (fun _ => 0) false (fun j hj => absurd hj (Nat.not_lt_zero _)) ⟨fun h => absurd h (by decide), fun hh => (let ⟨j, hj, _⟩ := hh; absurd hj (Nat.not_lt_zero _))⟩ (by decide) (by decide)
  rw [show ((0 : Nat) : Int) = 0 from rfl] at k0
  unfold qof_s
  generalize ((64 - ((0) : Int)).toNat + 1) = fuel at k0 ⊢
  constructor
  · intro hd j hj
    refine k0.2 ?_ j hj
    rintro ⟨k, _, hk1, hk2⟩
    rw [hd k hk1] at hk2
    cases hk2
  · intro hd j hj
    rw [show pt 0 0 j = 2 by unfold pt; simp]
    refine k0.1 ?_ j hj
    apply Classical.byContradiction
    intro hn
    refine hd fun k hk => ?_
    cases hE2 : E.testBit k with
    | false => rfl
    | true =>
      exfalso
      by_cases hk64 : k < 64
      · exact hn ⟨k, hk64, hk, hE2⟩
      · rw [bit_hi hZl (by omega)] at hk; cases hk
theorem qbit_is {r : Nat → Int} {z o : Nat} (h : RowIs r z o) (hd : Dj z o) (hz : z < 2 ^ 64) (ho : o < 2 ^ 64) : qbit_s r = ((z : Int), (o : Int)) := by
  have e0 : ∀ j, j < 64 → (r j == (0 : Int)) = z.testBit j := fun j hj => by
    rw [h j hj]
    unfold pt
    cases hz : z.testBit j with
    | true => rw [hd j hz]; rfl
    | false => cases o.testBit j <;> rfl
  have e1 : ∀ j, j < 64 → (r j == (1 : Int)) = o.testBit j := fun j hj => by
    rw [h j hj]
    unfold pt
    cases o.testBit j with
    | true => rfl
    | false => cases z.testBit j <;> rfl
  have key : ∀ (m i : Nat) (f g : Nat → Bool), (∀ j, j < i → f j = z.testBit j) → (∀ j, j < i → g j = o.testBit j) → i ≤ 64 → 64 - i < m → qbit_l0 r m f g i = ((z : Int), (o : Int)) := by
    intro m
    induction m with
    | zero => intro i f g _ _ _ hm; exact absurd hm (Nat.not_lt_zero _)
    | succ m ih =>
      intro i f g hf hg hi hm
      rw [qbit_l0]
      by_cases c : (i : Int) < 64
      · rw [decide_eq_true c, Int.toNat_natCast, e0 i (by omega), e1 i (by omega)]
        refine ih (i + 1) _ _ (fun j hj => ?_) (fun j hj => ?_) (by omega) (by omega)
        · rw [upd_at]; split
          · rename_i q; rw [q]
          · exact hf j (by omega)
        · rw [upd_at]; split
          · rename_i q; rw [q]
          · exact hg j (by omega)
      · rw [decide_eq_false c]
        obtain rfl : i = 64 := by omega
        show (rnum_s f, rnum_s g) = _
        rw [rnum_is hf hz, rnum_is hg ho]
  unfold qbit_s
  exact key _ 0 _ _ (fun j hj => absurd hj (Nat.not_lt_zero _)) (fun j hj => absurd hj (Nat.not_lt_zero _)) (by decide) (by decide)
theorem qwrd_is {w x : Int} {W x0 : Nat} (hw : w = W) (hW : W ≤ 64) (hx : x0 < 2 ^ 64) (h : x = x0) : RowIs (qwrd_s w x) (2 ^ W - 1 - x0 % 2 ^ W) (x0 % 2 ^ W) := by
  have hX := rof_is hw hW hx h
  have hX2 : x0 % 2 ^ W < 2 ^ W := Nat.mod_lt _ (Nat.two_pow_pos W)
  generalize x0 % 2 ^ W = X at *
  have hn : (2 ^ W - 1 - X) = notN W X := (notN_eq hX2).symm
  have pv : ∀ j, pt (2 ^ W - 1 - X) X j = if j < W then (if X.testBit j = true then 1 else 0) else 2 := fun j => by
    unfold pt
    rw [hn, notN_bit]
    by_cases c : j < W
    · rw [if_pos c, decide_eq_true c]
      cases X.testBit j <;> rfl
    · rw [if_neg c, decide_eq_false c, bit_hi hX2 (by omega)]
      rfl
  have key : ∀ (m i : Nat) (f : Nat → Int), (∀ j, j < i → f j = pt (2 ^ W - 1 - X) X j) → (∀ j, i ≤ j → j < 64 → f j = 2) → i ≤ W → W - i < m → ∀ j, j < 64 → qwrd_l0 w x m f i j = pt (2 ^ W - 1 - X) X j := by
    intro m
    induction m with
    | zero => intro i f _ _ _ hm; exact absurd hm (Nat.not_lt_zero _)
    | succ m ih =>
      intro i f hf hg hi hm j hj
      rw [qwrd_l0]
      by_cases c : (i : Int) < w
      · rw [decide_eq_true c, Int.toNat_natCast, hX i (by omega)]
        simp only [cond_true]
        rw [show ((i : Int) + 1) = ((i + 1 : Nat) : Int) from rfl]
        have pi := pv i
        rw [if_pos (by omega)] at pi
        cases hb : X.testBit i with
        | true =>
          rw [hb, if_pos rfl] at pi
          refine ih (i + 1) _ (fun k hk => ?_) (fun k hk hk2 => ?_) (by omega) (by omega) j hj
          · rw [upd_at]; split
            · rename_i q; rw [q, pi]
            · rw [upd_at]; rename_i q; rw [if_neg q]; exact hf k (by omega)
          · rw [upd_at, if_neg (by omega), upd_at, if_neg (by omega)]; exact hg k (by omega) hk2
        | false =>
          rw [hb] at pi
          simp only [Bool.false_eq_true, if_false] at pi
          refine ih (i + 1) _ (fun k hk => ?_) (fun k hk hk2 => ?_) (by omega) (by omega) j hj
          · rw [upd_at]; split
            · rename_i q; rw [q, pi]
            · exact hf k (by omega)
          · rw [upd_at, if_neg (by omega)]; exact hg k (by omega) hk2
      · rw [decide_eq_false c]
        obtain rfl : i = W := by omega
        by_cases c2 : j < i
        · exact hf j c2
        · show f j = _
          rw [pv j, if_neg c2, hg j (by omega) hj]
  intro j hj
  unfold qwrd_s
  exact key _ 0 _ (fun j hj => absurd hj (Nat.not_lt_zero _)) (fun k _ hk => by rw [qnon_is k hk]; unfold pt; simp) (Nat.zero_le _) (by omega) j hj
/-- The word of a row's first places, if all are known. -/
theorem qnum_is {w : Int} {W : Nat} (hw : w = W) (hW : W ≤ 64) {r : Nat → Int} {z o : Nat} (h : RowIs r z o) : qnum_s w r = if ∀ j, j < W → r j ≠ 2 then (((o % 2 ^ W : Nat) : Int), true) else (0, false) := by
  have e1 : ∀ j, j < 64 → (r j == (1 : Int)) = o.testBit j := fun j hj => by
    rw [h j hj]
    unfold pt
    cases o.testBit j with
    | true => rfl
    | false => cases z.testBit j <;> rfl
  have key : ∀ (m i : Nat) (f : Nat → Bool), (∀ j, j < i → r j ≠ 2) → Is f (o % 2 ^ i) → i ≤ W → W - i < m → qnum_l0 w r m f i = if ∀ j, j < W → r j ≠ 2 then (((o % 2 ^ W : Nat) : Int), true) else (0, false) := by
    intro m
    induction m with
    | zero => intro i f _ _ _ hm; exact absurd hm (Nat.not_lt_zero _)
    | succ m ih =>
      intro i f hf hg hi hm
      rw [qnum_l0]
      by_cases c : (i : Int) < w
      · rw [decide_eq_true c, Int.toNat_natCast]
        simp only [cond_true]
        by_cases c2 : r i = 2
        · rw [if_neg (fun hh => hh i (by omega) c2), show (r i == (2 : Int)) = true by rw [c2]; rfl]
          rfl
        · rw [show (r i == (2 : Int)) = false from beq_eq_false_iff_ne.2 c2, e1 i (by omega)]
          refine ih (i + 1) _ (fun j hj => ?_) (upd_is hg (fun j _ => mod_step rfl j)) (by omega) (by omega)
          by_cases q : j = i
          · rw [q]; exact c2
          · exact hf j (by omega)
      · rw [decide_eq_false c]
        obtain rfl : i = W := by omega
        rw [if_pos hf]
        have hp : o % 2 ^ i < 2 ^ 64 := Nat.lt_of_lt_of_le (Nat.mod_lt _ (Nat.two_pow_pos i)) (Nat.pow_le_pow_right (by decide) hW)
        show (rnum_s f, true) = _
        rw [rnum_is hg hp]
  unfold qnum_s
  exact key _ 0 _ (fun j hj => absurd hj (Nat.not_lt_zero _)) (by rw [Nat.pow_zero, Nat.mod_one]; exact zero_is) (Nat.zero_le _) (by omega)
end Go.Proofs.YtdfifogicefkjaaGreatDoor.Sx.M5
/- KnownTells: Right, Of, Num, Has, Meet, Join. -/
open Go Go.Proofs Go.RowKit
namespace Go.Proofs.YtdfifogicefkjaaGreatDoor.Sx.M5
set_option linter.unusedVariables false
set_option linter.unusedSimpArgs false
theorem and0_iff (a b : Nat) : a &&& b = 0 ↔ ∀ i, a.testBit i = true → b.testBit i = false := by
  constructor
  · intro h i ha
    have := congrArg (fun n => Nat.testBit n i) h
    simp only [Nat.testBit_and, ha, Bool.true_and, Nat.zero_testBit] at this
    exact this
  · intro h
    apply Nat.eq_of_testBit_eq
    intro i
    rw [Nat.testBit_and, Nat.zero_testBit]
    cases ha : a.testBit i
    · rfl
    · rw [h i ha]; rfl
theorem bit_lt {a W i : Nat} (h : a < 2 ^ W) (ha : a.testBit i = true) : i < W := by
  rcases Nat.lt_or_ge i W with c | c
  · exact c
  · have := Nat.testBit_lt_two_pow (Nat.lt_of_lt_of_le h (Nat.pow_le_pow_right (by decide) c))
    rw [this] at ha; cases ha
theorem andNot0_iff (a x : Nat) (ha : a < 2 ^ 64) (hx : x < 2 ^ 64) : a &&& (2 ^ 64 - 1 - x) = 0 ↔ ∀ i, a.testBit i = true → x.testBit i = true := by
  rw [and0_iff]
  have e : 2 ^ 64 - 1 - x = 2 ^ 64 - (x + 1) := by omega
  constructor
  · intro h i hi
    have := h i hi
    rw [e, Nat.testBit_two_pow_sub_succ hx, decide_eq_true (bit_lt ha hi), Bool.true_and] at this
    simpa using this
  · intro h i hi
    rw [e, Nat.testBit_two_pow_sub_succ hx, h i hi]
    simp
theorem mask_xor {W x : Nat} (h : x < 2 ^ W) : x ^^^ (2 ^ W - 1) = 2 ^ W - 1 - x := by
  rw [Nat.xor_comm]; exact not_nat x W h
theorem andNot_nat (a b : Nat) (ha : a < 2 ^ 64) (hb : b < 2 ^ 64) : Go.bits .andNot .u64 (a : Int) (b : Int) = ((a &&& (2 ^ 64 - 1 - b) : Nat) : Int) := by
  have ha' : a % 2 ^ 64 = a := Nat.mod_eq_of_lt ha
  have hb' : b % 2 ^ 64 = b := Nat.mod_eq_of_lt hb
  have hx : a &&& (2 ^ 64 - 1 - b) < 2 ^ 64 := Nat.and_lt_two_pow _ (by omega)
  have e : IntKind.u64.bits = 64 := rfl
  simp only [Go.bits, e, BitVec.ofInt_natCast, BitVec.toNat_and, BitVec.toNat_not, BitVec.toNat_ofNat, ha', hb']
  exact u64_small (Int.natCast_nonneg _) (by omega)

theorem dj_iff (z o : Nat) : Dj z o ↔ z &&& o = 0 := (and0_iff z o).symm
theorem OkB.zero (W : Nat) : OkB W 0 0 := ⟨Nat.two_pow_pos W, Nat.two_pow_pos W, fun j h => by simp at h⟩
theorem OkB.z64 {W z o : Nat} (h : OkB W z o) (hW : W ≤ 64) : z < 2 ^ 64 := Nat.lt_of_lt_of_le h.lz (pow_le64 hW)
theorem OkB.o64 {W z o : Nat} (h : OkB W z o) (hW : W ≤ 64) : o < 2 ^ 64 := Nat.lt_of_lt_of_le h.lo (pow_le64 hW)
/-- What is known of bits, by both sides. -/
theorem right_both (w : Int) {z e : Int} (hz : 0 ≤ z ∧ z < 18446744073709551616) (he : 0 ≤ e ∧ e < 18446744073709551616) : ∃ Z O : Nat, krig_s w z e = ((Z : Int), (O : Int)) ∧ OkB (cw w) Z O ∧ RowIs (qof_s (cw w : Int) z e) Z O := by
  obtain ⟨z0, rfl⟩ : ∃ n : Nat, z = n := ⟨z.toNat, by omega⟩
  obtain ⟨e0, rfl⟩ : ∃ n : Nat, e = n := ⟨e.toNat, by omega⟩
  obtain ⟨h1, h2⟩ := cw_range w
  have hz0 : z0 < 2 ^ 64 := by omega
  have he0 : e0 < 2 ^ 64 := by omega
  have q := qof_is (w := (cw w : Int)) rfl h2 hz0 he0 rfl rfl
  have hp := pow_le64 h2
  have lZ : z0 % 2 ^ cw w < 2 ^ cw w := Nat.mod_lt _ (Nat.two_pow_pos _)
  have lO : e0 % 2 ^ cw w < 2 ^ cw w := Nat.mod_lt _ (Nat.two_pow_pos _)
  unfold krig_s
  rw [cut_eq w z0 hz0, cut_eq w e0 he0, and_nat _ _ (by omega) (by omega)]
  generalize z0 % 2 ^ cw w = Z at *
  generalize e0 % 2 ^ cw w = O at *
  by_cases hd : Z &&& O = 0
  · refine ⟨Z, O, ?_, ⟨lZ, lO, (dj_iff _ _).2 hd⟩, q.1 ((dj_iff _ _).2 hd)⟩
    rw [hd]; rfl
  · refine ⟨0, 0, ?_, OkB.zero _, q.2 (fun h => hd ((dj_iff _ _).1 h))⟩
    rw [show ((((Z &&& O : Nat) : Int)) != 0) = true from bne_iff_ne.2 (by omega)]
    rfl
theorem qrig_same (w : Int) {z e : Int} (hz : 0 ≤ z ∧ z < 18446744073709551616) (he : 0 ≤ e ∧ e < 18446744073709551616) : qrig_s w z e = krig_s w z e := by
  obtain ⟨Z, O, h1, h2, h3⟩ := right_both w hz he
  unfold qrig_s
  rw [rwid_eq, qbit_is h3 h2.dj (h2.z64 (cw_range w).2) (h2.o64 (cw_range w).2), h1]
theorem kof_eq (w : Int) {x : Nat} (hx : x < 2 ^ 64) : kof_s w (x : Int) = (((2 ^ cw w - 1 - x % 2 ^ cw w : Nat) : Int), ((x % 2 ^ cw w : Nat) : Int)) := by
  have hp := pow_le64 (cw_range w).2
  have l : x % 2 ^ cw w < 2 ^ cw w := Nat.mod_lt _ (Nat.two_pow_pos _)
  unfold kof_s
  rw [cut_eq w x hx, mask_eq, xor_nat _ _ (by omega) (by omega), mask_xor l]
theorem of_ok (W : Nat) {X : Nat} (h : X < 2 ^ W) : OkB W (2 ^ W - 1 - X) X := by
  refine ⟨by omega, h, fun j hj => ?_⟩
  rw [← notN_eq h, notN_bit] at hj
  simp at hj
  exact hj.2
theorem qwo_same (w : Int) {x : Int} (hx : 0 ≤ x ∧ x < 18446744073709551616) : qwo_s w x = kof_s w x := by
  obtain ⟨x0, rfl⟩ : ∃ n : Nat, x = n := ⟨x.toNat, by omega⟩
  have h2 := (cw_range w).2
  have hx0 : x0 < 2 ^ 64 := by omega
  have o := of_ok (cw w) (X := x0 % 2 ^ cw w) (Nat.mod_lt _ (Nat.two_pow_pos _))
  unfold qwo_s
  rw [rwid_eq, qbit_is (qwrd_is rfl h2 hx0 rfl) o.dj (o.z64 h2) (o.o64 h2), kof_eq w hx0]
theorem known_iff' {W Z O : Nat} (h : OkB W Z O) : (∀ j, j < W → pt Z O j ≠ 2) ↔ Z = 2 ^ W - 1 - O := by
  rw [← notN_eq h.lo]
  constructor
  · intro hk
    apply Nat.eq_of_testBit_eq
    intro j
    rw [notN_bit]
    by_cases c : j < W
    · have := hk j c
      unfold pt at this
      rw [decide_eq_true c]
      cases hO : O.testBit j with
      | true =>
        cases hZ : Z.testBit j with
        | true => rw [h.dj j hZ] at hO; cases hO
        | false => rfl
      | false =>
        cases hZ : Z.testBit j with
        | true => rfl
        | false => rw [hO, hZ] at this; simp at this
    · rw [decide_eq_false c, bit_hi h.lz (by omega)]; rfl
  · intro e j hj
    have : Z.testBit j = !O.testBit j := by rw [e, notN_bit, decide_eq_true hj]; rfl
    unfold pt
    rw [this]
    cases O.testBit j <;> simp
theorem knum_both (w : Int) {z e : Int} {Z O : Nat} (h1 : krig_s w z e = ((Z : Int), (O : Int))) (h2 : OkB (cw w) Z O) : knum_s w z e = if Z = 2 ^ cw w - 1 - O then ((O : Int), true) else (0, false) := by
  have hO := h2.o64 (cw_range w).2
  unfold knum_s
  rw [h1]
  simp only
  rw [kof_eq w hO, Nat.mod_eq_of_lt h2.lo]
  simp only [beq_self_eq_true, Bool.and_true]
  by_cases c : Z = 2 ^ cw w - 1 - O
  · rw [if_pos c, show (((Z : Int)) == (((2 ^ cw w - 1 - O : Nat) : Int))) = true by rw [c]; exact beq_self_eq_true _]; rfl
  · rw [if_neg c, show (((Z : Int)) == (((2 ^ cw w - 1 - O : Nat) : Int))) = false from beq_eq_false_iff_ne.2 (by omega)]; rfl
theorem qnum_row {w : Int} {r : Nat → Int} {Z O : Nat} (h2 : OkB (cw w) Z O) (h3 : RowIs r Z O) : qnum_s (cw w : Int) r = if Z = 2 ^ cw w - 1 - O then ((O : Int), true) else (0, false) := by
  have hW := (cw_range w).2
  rw [qnum_is rfl hW h3, Nat.mod_eq_of_lt h2.lo]
  have e : (∀ j, j < cw w → r j ≠ 2) ↔ Z = 2 ^ cw w - 1 - O := by
    rw [← known_iff' h2]
    exact ⟨fun h j hj => by rw [← h3 j (by omega)]; exact h j hj, fun h j hj => by rw [h3 j (by omega)]; exact h j hj⟩
  by_cases c : Z = 2 ^ cw w - 1 - O
  · rw [if_pos (e.2 c), if_pos c]
  · rw [if_neg (fun h => c (e.1 h)), if_neg c]
end Go.Proofs.YtdfifogicefkjaaGreatDoor.Sx.M5
/- KnownTells: Meet, Join. -/
open Go Go.Proofs Go.RowKit
namespace Go.Proofs.YtdfifogicefkjaaGreatDoor.Sx.M5
set_option linter.unusedVariables false
set_option linter.unusedSimpArgs false
theorem or_zero_iff (a b : Nat) : a ||| b = 0 ↔ a = 0 ∧ b = 0 := by
  constructor
  · intro h
    have : ∀ j, (a ||| b).testBit j = false := fun j => by rw [h]; simp
    constructor <;> apply Nat.eq_of_testBit_eq <;> intro j <;> have := this j <;> rw [Nat.testBit_or] at this <;> simp at this ⊢ <;> simp [this]
  · rintro ⟨rfl, rfl⟩; rfl
theorem qjoi_same (w : Int) {a b c e : Int} (ha : 0 ≤ a ∧ a < 18446744073709551616) (hb : 0 ≤ b ∧ b < 18446744073709551616) (hc : 0 ≤ c ∧ c < 18446744073709551616) (he : 0 ≤ e ∧ e < 18446744073709551616) : qjoi_s w a b c e = kjoi_s w a b c e := by
  obtain ⟨Z, O, g1, g2, g3⟩ := right_both w ha hb
  obtain ⟨Y, P, g4, g5, g6⟩ := right_both w hc he
  have hW := (cw_range w).2
  have hpt : ∀ j, pt (Z &&& Y) (O &&& P) j = if pt Z O j = pt Y P j then pt Z O j else 2 := fun j => by
    have d1 := g2.dj j
    have d2 := g5.dj j
    unfold pt
    rw [Nat.testBit_and, Nat.testBit_and]
    cases hZ : Z.testBit j <;> cases hO : O.testBit j <;> cases hY : Y.testBit j <;> cases hP : P.testBit j <;> simp [hZ, hO, hY, hP] at d1 d2 ⊢
  have hi : ∀ j, cw w ≤ j → pt Z O j = 2 ∧ pt Y P j = 2 := fun j hj => by
    unfold pt
    rw [bit_hi g2.lz hj, bit_hi g2.lo hj, bit_hi g5.lz hj, bit_hi g5.lo hj]
    exact ⟨rfl, rfl⟩
  have ok : OkB (cw w) (Z &&& Y) (O &&& P) := ⟨Nat.and_lt_two_pow _ g5.lz, Nat.and_lt_two_pow _ g5.lo, fun j hj => by
    rw [Nat.testBit_and] at hj ⊢
    simp only [Bool.and_eq_true] at hj
    rw [g2.dj j hj.1]; rfl⟩
  have key : ∀ (m i : Nat) (f : Nat → Int), (∀ j, j < i → f j = pt (Z &&& Y) (O &&& P) j) → (∀ j, i ≤ j → j < 64 → f j = pt Z O j) → i ≤ cw w → cw w - i < m → qjoi_l0 w a b c e m f i = (((Z &&& Y : Nat) : Int), ((O &&& P : Nat) : Int)) := by
    intro m
    induction m with
    | zero => intro i f _ _ _ hm; exact absurd hm (Nat.not_lt_zero _)
    | succ m ih =>
      intro i f hf hg hi2 hm
      rw [qjoi_l0, rwid_eq]
      by_cases q : (i : Int) < (cw w : Int)
      · rw [decide_eq_true q, Int.toNat_natCast, g6 i (by omega), hg i (Nat.le_refl _) (by omega)]
        simp only [cond_true]
        have hp := hpt i
        by_cases q2 : pt Z O i = pt Y P i
        · rw [show (pt Z O i != pt Y P i) = false from bne_eq_false_iff_eq.2 q2]
          rw [if_pos q2] at hp
          refine ih (i + 1) _ (fun j hj => ?_) (fun j hj => hg j (by omega)) (by omega) (by omega)
          by_cases q3 : j = i
          · rw [q3, hp, hg i (Nat.le_refl _) (by omega)]
          · exact hf j (by omega)
        · rw [show (pt Z O i != pt Y P i) = true from bne_iff_ne.2 q2]
          rw [if_neg q2] at hp
          refine ih (i + 1) _ (fun j hj => ?_) (fun j hj hj2 => ?_) (by omega) (by omega)
          · rw [upd_at]; split
            · rename_i q3; rw [q3, hp]
            · exact hf j (by omega)
          · rw [upd_at, if_neg (by omega)]; exact hg j (by omega) hj2
      · rw [decide_eq_false q]
        have hr : RowIs f (Z &&& Y) (O &&& P) := fun j hj => by
          by_cases q3 : j < i
          · exact hf j q3
          · have h4 := hi j (by omega)
            rw [hpt j, if_pos (h4.1.trans h4.2.symm)]
            exact hg j (by omega) hj
        show ((qbit_s f).1, (qbit_s f).2) = _
        rw [qbit_is hr ok.dj (ok.z64 hW) (ok.o64 hW)]
  unfold qjoi_s
  have k := key ((rwid_s w - ((0) : Int)).toNat + 1) 0 (qof_s (rwid_s w) a b) (fun j hj => absurd hj (Nat.not_lt_zero _)) (fun j _ hj => by rw [rwid_eq]; exact g3 j hj) (Nat.zero_le _) (by rw [rwid_eq]; omega)
  refine k.trans ?_
  unfold kjoi_s
  rw [g1, g4]
  simp only
  rw [and_nat _ _ (g2.z64 hW) (g5.z64 hW), and_nat _ _ (g2.o64 hW) (g5.o64 hW)]
theorem qmee_same (w : Int) {a b c e : Int} (ha : 0 ≤ a ∧ a < 18446744073709551616) (hb : 0 ≤ b ∧ b < 18446744073709551616) (hc : 0 ≤ c ∧ c < 18446744073709551616) (he : 0 ≤ e ∧ e < 18446744073709551616) : qmee_s w a b c e = kmee_s w a b c e := by
  obtain ⟨Z, O, g1, g2, g3⟩ := right_both w ha hb
  obtain ⟨Y, P, g4, g5, g6⟩ := right_both w hc he
  have hW := (cw_range w).2
  have lz : Z ||| Y < 2 ^ cw w := Nat.or_lt_two_pow g2.lz g5.lz
  have lo : O ||| P < 2 ^ cw w := Nat.or_lt_two_pow g2.lo g5.lo
  have hpp := pow_le64 hW
  have hpt : ∀ j, ((Z ||| Y).testBit j = true → (O ||| P).testBit j = false) → pt (Z ||| Y) (O ||| P) j = if pt Z O j = 2 then pt Y P j else pt Z O j := fun j hd => by
    have d1 := g2.dj j
    have d2 := g5.dj j
    unfold pt
    rw [Nat.testBit_or, Nat.testBit_or] at hd ⊢
    cases hZ : Z.testBit j <;> cases hO : O.testBit j <;> cases hY : Y.testBit j <;> cases hP : P.testBit j <;> simp [hZ, hO, hY, hP] at d1 d2 hd ⊢
  have clash : ∀ j, ¬ ((Z ||| Y).testBit j = true → (O ||| P).testBit j = false) ↔ (pt Z O j ≠ 2 ∧ pt Y P j ≠ 2 ∧ pt Z O j ≠ pt Y P j) := fun j => by
    have d1 := g2.dj j
    have d2 := g5.dj j
    unfold pt
    rw [Nat.testBit_or, Nat.testBit_or]
    cases hZ : Z.testBit j <;> cases hO : O.testBit j <;> cases hY : Y.testBit j <;> cases hP : P.testBit j <;> simp [hZ, hO, hY, hP] at d1 d2 ⊢
  have hi : ∀ j, cw w ≤ j → pt Z O j = 2 ∧ pt Y P j = 2 := fun j hj => by
    unfold pt
    rw [bit_hi g2.lz hj, bit_hi g2.lo hj, bit_hi g5.lz hj, bit_hi g5.lo hj]
    exact ⟨rfl, rfl⟩
  have key : ∀ (m i : Nat) (f : Nat → Int), (∀ j, j < i → ((Z ||| Y).testBit j = true → (O ||| P).testBit j = false)) → (∀ j, j < i → f j = pt (Z ||| Y) (O ||| P) j) → (∀ j, i ≤ j → j < 64 → f j = pt Z O j) → i ≤ cw w → cw w - i < m → qmee_l0 w a b c e m f i = if (Z ||| Y) &&& (O ||| P) = 0 then (((Z ||| Y : Nat) : Int), ((O ||| P : Nat) : Int), true) else (0, 0, false) := by
    intro m
    induction m with
    | zero => intro i f _ _ _ _ hm; exact absurd hm (Nat.not_lt_zero _)
    | succ m ih =>
      intro i f hd hf hg hi2 hm
      rw [qmee_l0, rwid_eq]
      by_cases q : (i : Int) < (cw w : Int)
      · rw [decide_eq_true q, Int.toNat_natCast, g6 i (by omega), hg i (Nat.le_refl _) (by omega)]
        simp only [cond_true]
        by_cases cl : pt Z O i ≠ 2 ∧ pt Y P i ≠ 2 ∧ pt Z O i ≠ pt Y P i
        · rw [show (pt Z O i != 2) = true from bne_iff_ne.2 cl.1, show (pt Y P i != 2) = true from bne_iff_ne.2 cl.2.1, show (pt Z O i != pt Y P i) = true from bne_iff_ne.2 cl.2.2]
          rw [if_neg (fun h => (clash i).2 cl (fun h1 => (dj_iff _ _).2 h i h1))]
          rfl
        · have ncl : (Z ||| Y).testBit i = true → (O ||| P).testBit i = false := by
            apply Classical.byContradiction
            intro h; exact cl ((clash i).1 h)
          have hp := hpt i ncl
          have go2 : pt Z O i = 2 → qmee_l0 w a b c e m (upd f i (pt Y P i)) ((i + 1 : Nat) : Int) = if (Z ||| Y) &&& (O ||| P) = 0 then (((Z ||| Y : Nat) : Int), ((O ||| P : Nat) : Int), true) else (0, 0, false) := fun h2 => by
            rw [if_pos h2] at hp
            refine ih (i + 1) _ (fun j hj => ?_) (fun j hj => ?_) (fun j hj hj2 => ?_) (by omega) (by omega)
            · by_cases q3 : j = i
              · rw [q3]; exact ncl
              · exact hd j (by omega)
            · rw [upd_at]; split
              · rename_i q3; rw [q3, hp]
              · exact hf j (by omega)
            · rw [upd_at, if_neg (by omega)]; exact hg j (by omega) hj2
          have gon : pt Z O i ≠ 2 → qmee_l0 w a b c e m f ((i + 1 : Nat) : Int) = if (Z ||| Y) &&& (O ||| P) = 0 then (((Z ||| Y : Nat) : Int), ((O ||| P : Nat) : Int), true) else (0, 0, false) := fun h2 => by
            rw [if_neg h2] at hp
            refine ih (i + 1) _ (fun j hj => ?_) (fun j hj => ?_) (fun j hj hj2 => hg j (by omega) hj2) (by omega) (by omega)
            · by_cases q3 : j = i
              · rw [q3]; exact ncl
              · exact hd j (by omega)
            · by_cases q3 : j = i
              · rw [q3, hp, hg i (Nat.le_refl _) (by omega)]
              · exact hf j (by omega)
          by_cases h2 : pt Z O i = 2
          · rw [show (pt Z O i != 2) = false from bne_eq_false_iff_eq.2 h2, show (pt Z O i == 2) = true from beq_iff_eq.2 h2]
            exact go2 h2
          · rw [show (pt Z O i != 2) = true from bne_iff_ne.2 h2, show (pt Z O i == 2) = false from beq_eq_false_iff_ne.2 h2]
            by_cases h3 : pt Y P i = 2
            · rw [show (pt Y P i != 2) = false from bne_eq_false_iff_eq.2 h3]
              exact gon h2
            · have h4 : pt Z O i = pt Y P i := by
                apply Classical.byContradiction
                intro h5; exact cl ⟨h2, h3, h5⟩
              rw [show (pt Y P i != 2) = true from bne_iff_ne.2 h3, show (pt Z O i != pt Y P i) = false from bne_eq_false_iff_eq.2 h4]
              exact gon h2
      · rw [decide_eq_false q]
        have hdj : Dj (Z ||| Y) (O ||| P) := fun j hj => by
          by_cases q3 : j < i
          · exact hd j q3 hj
          · rw [bit_hi lz (by omega)] at hj; cases hj
        have hr : RowIs f (Z ||| Y) (O ||| P) := fun j hj => by
          by_cases q3 : j < i
          · exact hf j q3
          · have h4 := hi j (by omega)
            rw [hpt j (hdj j), if_pos h4.1, h4.2, ← h4.1]
            exact hg j (by omega) hj
        rw [if_pos ((dj_iff _ _).1 hdj)]
        show ((qbit_s f).1, (qbit_s f).2, true) = _
        rw [qbit_is hr hdj (by omega) (by omega)]
  unfold qmee_s
  have k := key ((rwid_s w - ((0) : Int)).toNat + 1) 0 (qof_s (rwid_s w) a b) (fun j hj => absurd hj (Nat.not_lt_zero _)) (fun j hj => absurd hj (Nat.not_lt_zero _)) (fun j _ hj => by rw [rwid_eq]; exact g3 j hj) (Nat.zero_le _) (by rw [rwid_eq]; omega)
  refine k.trans ?_
  unfold kmee_s
  rw [g1, g4]
  simp only
  rw [or_nat _ _ (g2.z64 hW) (g5.z64 hW), or_nat _ _ (g2.o64 hW) (g5.o64 hW), and_nat _ _ (by omega) (by omega)]
  by_cases q : (Z ||| Y) &&& (O ||| P) = 0
  · rw [if_pos q, q]; rfl
  · rw [if_neg q, show ((((Z ||| Y) &&& (O ||| P) : Nat) : Int) != 0) = true from bne_iff_ne.2 (by omega)]; rfl
end Go.Proofs.YtdfifogicefkjaaGreatDoor.Sx.M5
/- KnownTells: rows bit by bit, and of OpEq. -/
open Go Go.Proofs Go.RowKit
namespace Go.Proofs.YtdfifogicefkjaaGreatDoor.Sx.M5
set_option linter.unusedVariables false
set_option linter.unusedSimpArgs false
theorem pt_hi {W Z O j : Nat} (hz : Z < 2 ^ W) (ho : O < 2 ^ W) (hj : W ≤ j) : pt Z O j = 2 := by
  unfold pt
  rw [bit_hi hz hj, bit_hi ho hj]; rfl
theorem one_row {op : Int} {W zz oo : Nat} (hW : W ≤ 64) {x y : Nat → Int} (hz : zz < 2 ^ W) (ho : oo < 2 ^ W) (h : ∀ j, j < W → qone_s op (x j) (y j) = pt zz oo j) : RowIs (qrow_l0 op (W : Int) x y (((W : Int) - ((0) : Int)).toNat + 1) qnon_s 0) zz oo := by
  have key : ∀ (m i : Nat) (f : Nat → Int), (∀ j, j < i → f j = pt zz oo j) → (∀ j, i ≤ j → j < 64 → f j = 2) → i ≤ W → W - i < m → ∀ j, j < 64 → qrow_l0 op (W : Int) x y m f i j = pt zz oo j := by
    intro m
    induction m with
    | zero => intro i f _ _ _ hm; exact absurd hm (Nat.not_lt_zero _)
    | succ m ih =>
      intro i f hf hg hi hm j hj
      rw [qrow_l0]
      by_cases c : (i : Int) < (W : Int)
      · rw [decide_eq_true c, Int.toNat_natCast, h i (by omega)]
        refine ih (i + 1) _ (fun k hk => ?_) (fun k hk hk2 => ?_) (by omega) (by omega) j hj
        · rw [upd_at]; split
          · rename_i q; rw [q]
          · exact hf k (by omega)
        · rw [upd_at, if_neg (by omega)]; exact hg k (by omega) hk2
      · rw [decide_eq_false c]
        by_cases q : j < i
        · exact hf j q
        · show f j = _
          rw [hg j (by omega) hj, pt_hi hz ho (by omega)]
  intro j hj
  exact key _ 0 _ (fun j hj => absurd hj (Nat.not_lt_zero _)) (fun k _ hk => by rw [qnon_is k hk]; unfold pt; simp) (Nat.zero_le _) (by omega) j hj
section
variable {W Z O Y P : Nat} {x y : Nat → Int}
theorem row5 (hW : W ≤ 64) (h1 : OkB W Z O) (h2 : RowIs x Z O) : RowIs (qrow_s 5 (W : Int) x y) O Z ∧ OkB W O Z := by
  have dj : Dj O Z := fun j hj => by
    cases hz : Z.testBit j with
    | false => rfl
    | true => rw [h1.dj j hz] at hj; cases hj
  refine ⟨one_row hW h1.lo h1.lz (fun j hj => ?_), h1.lo, h1.lz, dj⟩
  rw [h2 j (by omega)]
  have d := h1.dj j
  unfold pt
  generalize y j = v
  cases hz : Z.testBit j <;> cases ho : O.testBit j <;> simp [hz, ho] at d ⊢ <;> rfl
theorem row13 (hW : W ≤ 64) (h1 : OkB W Z O) (h2 : RowIs x Z O) (h3 : OkB W Y P) (h4 : RowIs y Y P) : RowIs (qrow_s 13 (W : Int) x y) (Z ||| Y) (O &&& P) ∧ OkB W (Z ||| Y) (O &&& P) := by
  have lz : Z ||| Y < 2 ^ W := Nat.or_lt_two_pow h1.lz h3.lz
  have lo : O &&& P < 2 ^ W := Nat.and_lt_two_pow _ h3.lo
  refine ⟨one_row hW lz lo (fun j hj => ?_), lz, lo, fun j hj => ?_⟩
  · rw [h2 j (by omega), h4 j (by omega)]
    have d := h1.dj j
    have d2 := h3.dj j
    unfold pt
    rw [Nat.testBit_or, Nat.testBit_and]
    cases hz : Z.testBit j <;> cases ho : O.testBit j <;> cases hy : Y.testBit j <;> cases hp : P.testBit j <;> simp [hz, ho, hy, hp] at d d2 ⊢ <;> rfl
  · have d := h1.dj j
    have d2 := h3.dj j
    rw [Nat.testBit_or] at hj
    rw [Nat.testBit_and]
    cases hz : Z.testBit j <;> cases hy : Y.testBit j <;> simp [hz, hy] at d d2 hj ⊢ <;> simp [d, d2]
theorem row14 (hW : W ≤ 64) (h1 : OkB W Z O) (h2 : RowIs x Z O) (h3 : OkB W Y P) (h4 : RowIs y Y P) : RowIs (qrow_s 14 (W : Int) x y) (Z &&& Y) (O ||| P) ∧ OkB W (Z &&& Y) (O ||| P) := by
  have lz : Z &&& Y < 2 ^ W := Nat.and_lt_two_pow _ h3.lz
  have lo : O ||| P < 2 ^ W := Nat.or_lt_two_pow h1.lo h3.lo
  refine ⟨one_row hW lz lo (fun j hj => ?_), lz, lo, fun j hj => ?_⟩
  · rw [h2 j (by omega), h4 j (by omega)]
    have d := h1.dj j
    have d2 := h3.dj j
    unfold pt
    rw [Nat.testBit_or, Nat.testBit_and]
    cases hz : Z.testBit j <;> cases ho : O.testBit j <;> cases hy : Y.testBit j <;> cases hp : P.testBit j <;> simp [hz, ho, hy, hp] at d d2 ⊢ <;> rfl
  · have d := h1.dj j
    have d2 := h3.dj j
    rw [Nat.testBit_and] at hj
    rw [Nat.testBit_or]
    cases hz : Z.testBit j <;> cases hy : Y.testBit j <;> simp [hz, hy] at d d2 hj ⊢ <;> simp [d, d2]
def xorO (Z O Y P : Nat) : Nat := ((O ^^^ P) &&& (Z ||| O)) &&& (Y ||| P)
def xorZ (Z O Y P : Nat) : Nat := ((Z ||| O) &&& (Y ||| P)) &&& (2 ^ 64 - 1 - xorO Z O Y P)
theorem compl_bit {a j : Nat} (ha : a < 2 ^ 64) (hj : j < 64) : (2 ^ 64 - 1 - a).testBit j = !a.testBit j := by
  rw [← notN_eq ha, notN_bit, decide_eq_true hj]; rfl
theorem row15 (hW : W ≤ 64) (h1 : OkB W Z O) (h2 : RowIs x Z O) (h3 : OkB W Y P) (h4 : RowIs y Y P) : RowIs (qrow_s 15 (W : Int) x y) (xorZ Z O Y P) (xorO Z O Y P) ∧ OkB W (xorZ Z O Y P) (xorO Z O Y P) := by
  have lo : xorO Z O Y P < 2 ^ W := Nat.and_lt_two_pow _ (Nat.or_lt_two_pow h3.lz h3.lo)
  have lo64 : xorO Z O Y P < 2 ^ 64 := Nat.lt_of_lt_of_le lo (pow_le64 hW)
  have lz : xorZ Z O Y P < 2 ^ W := by
    unfold xorZ
    exact Nat.lt_of_le_of_lt Nat.and_le_left (Nat.and_lt_two_pow _ (Nat.or_lt_two_pow h3.lz h3.lo))
  have bz : ∀ j, j < 64 → (xorZ Z O Y P).testBit j = (((Z.testBit j || O.testBit j) && (Y.testBit j || P.testBit j)) && !(xorO Z O Y P).testBit j) := fun j hj => by
    unfold xorZ
    rw [Nat.testBit_and, Nat.testBit_and, Nat.testBit_or, Nat.testBit_or, compl_bit lo64 hj]
  have bo : ∀ j, (xorO Z O Y P).testBit j = (((O.testBit j ^^ P.testBit j) && (Z.testBit j || O.testBit j)) && (Y.testBit j || P.testBit j)) := fun j => by
    unfold xorO
    rw [Nat.testBit_and, Nat.testBit_and, Nat.testBit_xor, Nat.testBit_or, Nat.testBit_or]
  refine ⟨one_row hW lz lo (fun j hj => ?_), lz, lo, fun j hj => ?_⟩
  · rw [h2 j (by omega), h4 j (by omega)]
    have d := h1.dj j
    have d2 := h3.dj j
    unfold pt
    rw [bz j (by omega), bo j]
    cases hz : Z.testBit j <;> cases ho : O.testBit j <;> cases hy : Y.testBit j <;> cases hp : P.testBit j <;> simp [hz, ho, hy, hp] at d d2 ⊢ <;> rfl
  · have hj64 : j < 64 := by
      apply Classical.byContradiction
      intro h
      rw [bit_hi lz (by omega)] at hj; cases hj
    rw [bz j hj64] at hj
    cases hx : (xorO Z O Y P).testBit j with
    | false => rfl
    | true => rw [hx] at hj; simp at hj
theorem row19 (hW1 : 1 ≤ W) (hW : W ≤ 64) (h1 : OkB W Z O) (h2 : RowIs x Z O) (h3 : OkB W Y P) (h4 : RowIs y Y P) : RowIs (qrow_s 19 (W : Int) x y) (if O &&& Y = 0 ∧ Z &&& P = 0 then 0 else 1) 0 := by
  have cl : ∀ j, (pt Z O j ≠ 2 ∧ pt Y P j ≠ 2 ∧ pt Z O j ≠ pt Y P j) ↔ ((O &&& Y).testBit j = true ∨ (Z &&& P).testBit j = true) := fun j => by
    have d := h1.dj j
    have d2 := h3.dj j
    unfold pt
    rw [Nat.testBit_and, Nat.testBit_and]
    cases hz : Z.testBit j <;> cases ho : O.testBit j <;> cases hy : Y.testBit j <;> cases hp : P.testBit j <;> simp [hz, ho, hy, hp] at d d2 ⊢
  have key : ∀ (m i : Nat) (f : Nat → Int) (s : Bool), (∀ j, j < 64 → f j = if j = 0 ∧ s = true then 0 else 2) → (s = true ↔ ∃ j, j < i ∧ ((O &&& Y).testBit j = true ∨ (Z &&& P).testBit j = true)) → i ≤ W → W - i < m → ∀ j, j < 64 → qrow_l1 19 (W : Int) x y m f i j = if j = 0 ∧ (∃ k, k < W ∧ ((O &&& Y).testBit k = true ∨ (Z &&& P).testBit k = true)) then 0 else 2 := by
    intro m
    induction m with
    | zero => intro i f s _ _ _ hm; exact absurd hm (Nat.not_lt_zero _)
    | succ m ih =>
      intro i f s hf hs hi hm j hj
      rw [qrow_l1]
      by_cases c : (i : Int) < (W : Int)
      · rw [decide_eq_true c, Int.toNat_natCast, h2 i (by omega), h4 i (by omega)]
        simp only [cond_true]
        have ci : i + 1 ≤ W := by clear hs hf cl ih; omega
        have cm : W - (i + 1) < m := by clear hs hf cl ih; omega
        have same : ¬ (pt Z O i ≠ 2 ∧ pt Y P i ≠ 2 ∧ pt Z O i ≠ pt Y P i) → qrow_l1 19 (W : Int) x y m f ((i + 1 : Nat) : Int) j = if j = 0 ∧ (∃ k, k < W ∧ ((O &&& Y).testBit k = true ∨ (Z &&& P).testBit k = true)) then 0 else 2 := fun hn => by
          refine ih (i + 1) f s hf ?_ ci cm j hj
          rw [hs]
          constructor
          · rintro ⟨k, h5, h6⟩; exact ⟨k, Nat.lt_succ_of_lt h5, h6⟩
          · rintro ⟨k, h5, h6⟩
            by_cases q : k = i
            · rw [q] at h6; exact absurd ((cl i).2 h6) hn
            · exact ⟨k, Nat.lt_of_le_of_ne (Nat.le_of_lt_succ h5) q, h6⟩
        by_cases q1 : pt Z O i = 2
        · rw [show (pt Z O i != 2) = false from bne_eq_false_iff_eq.2 q1]; exact same (fun h => h.1 q1)
        · rw [show (pt Z O i != 2) = true from bne_iff_ne.2 q1]
          by_cases q2 : pt Y P i = 2
          · rw [show (pt Y P i != 2) = false from bne_eq_false_iff_eq.2 q2]; exact same (fun h => h.2.1 q2)
          · rw [show (pt Y P i != 2) = true from bne_iff_ne.2 q2]
            by_cases q3 : pt Z O i = pt Y P i
            · rw [show (pt Z O i != pt Y P i) = false from bne_eq_false_iff_eq.2 q3]; exact same (fun h => h.2.2 q3)
            · rw [show (pt Z O i != pt Y P i) = true from bne_iff_ne.2 q3]
              refine ih (i + 1) _ true (fun k hk => ?_) ?_ ci cm j hj
              · rw [upd_at]
                by_cases q4 : k = 0
                · rw [if_pos q4, if_pos ⟨q4, rfl⟩]
                · rw [if_neg q4, hf k hk, if_neg (fun h => q4 h.1), if_neg (fun h => q4 h.1)]
              · exact ⟨fun _ => ⟨i, Nat.lt_succ_self i, (cl i).1 ⟨q1, q2, q3⟩⟩, fun _ => rfl⟩
      · rw [decide_eq_false c]
        obtain rfl : i = W := by omega
        show f j = _
        rw [hf j hj]
        by_cases q : j = 0 ∧ s = true
        · rw [if_pos q, if_pos ⟨q.1, hs.1 q.2⟩]
        · rw [if_neg q, if_neg (fun h => q ⟨h.1, hs.2 h.2⟩)]
  intro j hj
  have k := key (((W : Int) - ((0) : Int)).toNat + 1) 0 qnon_s false (fun j hj => by rw [qnon_is j hj]; unfold pt; simp) ⟨fun h => absurd h (by decide), fun hh => (let ⟨j, hj, _⟩ := hh; absurd hj (Nat.not_lt_zero _))⟩ (Nat.zero_le _) (by omega) j hj
  refine Eq.trans k ?_
  have ex : (∃ k, k < W ∧ ((O &&& Y).testBit k = true ∨ (Z &&& P).testBit k = true)) ↔ ¬ (O &&& Y = 0 ∧ Z &&& P = 0) := by
    constructor
    · rintro ⟨k, _, hk⟩ ⟨e1, e2⟩
      rw [e1, e2] at hk
      simp at hk
    · intro hn
      apply Classical.byContradiction
      intro h5
      refine hn ⟨?_, ?_⟩ <;> apply Nat.eq_of_testBit_eq <;> intro k <;> rw [Nat.zero_testBit]
      · cases hb : (O &&& Y).testBit k with
        | false => rfl
        | true => exact absurd ⟨k, bit_lt (Nat.and_lt_two_pow _ h3.lz) hb, .inl hb⟩ h5
      · cases hb : (Z &&& P).testBit k with
        | false => rfl
        | true => exact absurd ⟨k, bit_lt (Nat.and_lt_two_pow _ h3.lo) hb, .inr hb⟩ h5
  by_cases q : O &&& Y = 0 ∧ Z &&& P = 0
  · rw [if_pos q, if_neg (fun h => (ex.1 h.2) q)]; unfold pt; simp
  · rw [if_neg q]
    by_cases q2 : j = 0
    · rw [if_pos ⟨q2, ex.2 q⟩, q2]; rfl
    · rw [if_neg (fun h => q2 h.1)]
      unfold pt
      obtain ⟨k, rfl⟩ : ∃ k, j = k + 1 := ⟨j - 1, by omega⟩
      simp [Nat.testBit_succ]
end
end Go.Proofs.YtdfifogicefkjaaGreatDoor.Sx.M5
/- KnownTells: sums and products: the lowest bits that are known. -/
open Go Go.Proofs Go.RowKit
namespace Go.Proofs.YtdfifogicefkjaaGreatDoor.Sx.M5
set_option linter.unusedVariables false
set_option linter.unusedSimpArgs false
theorem tz_is (x : Nat) (hx : x < 2 ^ 64) : tz_s (x : Int) = ((Lib.ctz 64 x : Nat) : Int) := by
  rw [tz_def]
  by_cases c : x = 0
  · rw [c]; rfl
  · rw [show (((x : Nat) : Int) == (0 : Int)) = false from beq_eq_false_iff_ne.2 (by omega), cond_false]
    obtain ⟨hlow, hk⟩ := Lib.lowest_bit 64 x c hx
    obtain ⟨hi, htab⟩ := Lib.deBruijn64_at _ hk
    have e : tzi (x : Int) = ((2 ^ Lib.ctz 64 x * 285870213051353865 % 18446744073709551616 / 288230376151711744 : Nat) : Int) := by
      have k := tz64_key x _ hx c hlow
      unfold tzi
      rw [show (0 : Int) - (x : Int) = -(x : Int) by omega, Int.fdiv_eq_ediv_of_nonneg _ (by decide)]
      exact k
    rw [e, Int.toNat_natCast, htab, IntKind.wrap_i64]
    generalize Lib.ctz 64 x = k at *
    omega
def lowN (y : Nat) : Nat := Lib.ctz 64 ((2 ^ 64 - 1) ^^^ y)
theorem klow_is {z e : Nat} (w : Int) (hz : z < 2 ^ 64) (he : e < 2 ^ 64) : klow_s (z : Int) (e : Int) w = ((lowN (z ||| e) : Nat) : Int) := by
  have l : z ||| e < 2 ^ 64 := Nat.or_lt_two_pow hz he
  unfold klow_s kall_s lowN
  rw [or_nat _ _ hz he, show IntKind.u64.max = ((2 ^ 64 - 1 : Nat) : Int) from rfl, xor_nat _ _ (by omega) l, tz_is _ (Nat.xor_lt_two_pow (by omega) l)]
theorem low_spec {y : Nat} (hy : y < 2 ^ 64) : (∀ i, i < lowN y → y.testBit i = true) ∧ (lowN y < 64 → y.testBit (lowN y) = false) := by
  have bits : ∀ i, (2 ^ 64 - 1 - y).testBit i = (decide (i < 64) && !y.testBit i) := fun i => by rw [← notN_eq hy, notN_bit]
  unfold lowN
  rw [not_nat _ _ hy]
  unfold Lib.ctz
  by_cases c : 2 ^ 64 - 1 - y = 0
  · rw [if_pos c]
    refine ⟨fun i hi => ?_, fun h => absurd h (Nat.lt_irrefl _)⟩
    have := bits i
    rw [c, Nat.zero_testBit, decide_eq_true hi, Bool.true_and] at this
    simpa using this.symm
  · rw [if_neg c]
    obtain ⟨m, e, hk⟩ := Lib.ctzFrom_spec 64 (2 ^ 64 - 1 - y) (by omega) (by omega)
    generalize Lib.ctzFrom 64 (2 ^ 64 - 1 - y) = k at *
    refine ⟨fun i hi => ?_, fun _ => ?_⟩
    · have := bits i
      rw [e, Nat.testBit_two_pow_mul, decide_eq_false (by omega), Bool.false_and, decide_eq_true (show i < 64 by omega), Bool.true_and] at this
      simpa using this.symm
    · have := bits k
      rw [e, Nat.testBit_two_pow_mul, decide_eq_true (Nat.le_refl _), Bool.true_and, Nat.sub_self, decide_eq_true hk, Bool.true_and] at this
      have o : (2 * m + 1).testBit 0 = true := by simp [Nat.testBit_zero]
      rw [o] at this
      simpa using this.symm
theorem pt_two {Z O j : Nat} : pt Z O j ≠ 2 ↔ (Z ||| O).testBit j = true := by
  unfold pt
  rw [Nat.testBit_or]
  cases O.testBit j <;> cases Z.testBit j <;> simp
section
variable {W Z O Y P : Nat} {x y : Nat → Int}
/-- What is known of an answer whose word is known. -/
theorem word_row {n : Nat} (h1 : 1 ≤ n) (h2 : n ≤ 64) {v : Nat} (hv : v < 2 ^ 64) {r : Nat → Int} {k : Int × Int} (hr : r = qwrd_s (n : Int) (v : Int)) (hk : k = ((kof_s (n : Int) (v : Int)).1, (kof_s (n : Int) (v : Int)).2)) :
    ∃ A B : Nat, k = ((A : Int), (B : Int)) ∧ RowIs r A B ∧ OkB n A B := by
  refine ⟨2 ^ n - 1 - v % 2 ^ n, v % 2 ^ n, ?_, ?_, of_ok n (Nat.mod_lt _ (Nat.two_pow_pos n))⟩
  · rw [hk, kof_eq _ hv, cw_of h1 h2]
  · rw [hr]; exact qwrd_is rfl h2 hv rfl
theorem OkB.mono {n : Nat} {A B : Nat} (h : OkB n A B) (hn : n ≤ W) : OkB W A B :=
  ⟨Nat.lt_of_lt_of_le h.lz (Nat.pow_le_pow_right (by decide) hn), Nat.lt_of_lt_of_le h.lo (Nat.pow_le_pow_right (by decide) hn), h.dj⟩
theorem sum_row (op : Int) (hW1 : 1 ≤ W) (hW : W ≤ 64) (h1 : OkB W Z O) (h2 : RowIs x Z O) (h3 : OkB W Y P) (h4 : RowIs y Y P) :
    ∃ A B : Nat, ksum_s (Z : Int) (O : Int) (W : Int) (Y : Int) (P : Int) (W : Int) op = ((A : Int), (B : Int)) ∧ RowIs (qsum_s op (W : Int) x y) A B ∧ OkB W A B := by
  have z64 := h1.z64 hW
  have o64 := h1.o64 hW
  have y64 := h3.z64 hW
  have p64 := h3.o64 hW
  have lx : Z ||| O < 2 ^ 64 := Nat.or_lt_two_pow z64 o64
  have ly : Y ||| P < 2 ^ 64 := Nat.or_lt_two_pow y64 p64
  obtain ⟨sx1, sx2⟩ := low_spec lx
  obtain ⟨sy1, sy2⟩ := low_spec ly
  have hl : min (min (klow_s (Z : Int) (O : Int) (W : Int)) (klow_s (Y : Int) (P : Int) (W : Int))) (W : Int) = ((min (min (lowN (Z ||| O)) (lowN (Y ||| P))) W : Nat) : Int) := by
    rw [klow_is _ z64 o64, klow_is _ y64 p64]; omega
  unfold ksum_s
  rw [hl]
  have low : ∀ i, i < min (min (lowN (Z ||| O)) (lowN (Y ||| P))) W → x i ≠ 2 ∧ y i ≠ 2 := fun i hi => by
    rw [h2 i (by omega), h4 i (by omega)]
    exact ⟨pt_two.2 (sx1 i (by omega)), pt_two.2 (sy1 i (by omega))⟩
  have top : min (min (lowN (Z ||| O)) (lowN (Y ||| P))) W < W → ¬ (x (min (min (lowN (Z ||| O)) (lowN (Y ||| P))) W) ≠ 2 ∧ y (min (min (lowN (Z ||| O)) (lowN (Y ||| P))) W) ≠ 2) := fun hn => by
    rw [h2 _ (by omega), h4 _ (by omega), pt_two, pt_two]
    rintro ⟨e1, e2⟩
    rcases Nat.le_total (lowN (Z ||| O)) (lowN (Y ||| P)) with c | c
    · have e : min (min (lowN (Z ||| O)) (lowN (Y ||| P))) W = lowN (Z ||| O) := by omega
      rw [e] at e1
      rw [sx2 (by omega)] at e1; cases e1
    · have e : min (min (lowN (Z ||| O)) (lowN (Y ||| P))) W = lowN (Y ||| P) := by omega
      rw [e] at e2
      rw [sy2 (by omega)] at e2; cases e2
  have nW : min (min (lowN (Z ||| O)) (lowN (Y ||| P))) W ≤ W := Nat.min_le_right _ _
  clear hl sx1 sx2 sy1 sy2
  generalize min (min (lowN (Z ||| O)) (lowN (Y ||| P))) W = n at *
  have key : ∀ (m i : Nat), i ≤ n → W - i < m → qsum_l0 op (W : Int) x y m (i : Int) = (bif (n : Int) == (0 : Int) then qnon_s else (qwrd_s (n : Int) (rapp_s op (n : Int) ((qnum_s (n : Int) x).1) ((qnum_s (n : Int) y).1)))) := by
    intro m
    induction m with
    | zero => intro i _ hm; exact absurd hm (Nat.not_lt_zero _)
    | succ m ih =>
      intro i hi hm
      rw [qsum_l0]
      by_cases c : i = n
      · rw [c]
        by_cases d : (n : Int) < (W : Int)
        · rw [decide_eq_true d, Int.toNat_natCast]
          simp only [cond_true]
          have t := top (Int.ofNat_lt.1 d)
          by_cases e : x n = 2
          · rw [show (x n != 2) = false from bne_eq_false_iff_eq.2 e]; rfl
          · rw [show (x n != 2) = true from bne_iff_ne.2 e]
            have e2 : y n = 2 := Classical.byContradiction fun h => t ⟨e, h⟩
            rw [show (y n != 2) = false from bne_eq_false_iff_eq.2 e2]; rfl
        · rw [decide_eq_false d]; rfl
      · have li : i < n := Nat.lt_of_le_of_ne hi c
        have d : (i : Int) < (W : Int) := Int.ofNat_lt.2 (Nat.lt_of_lt_of_le li nW)
        obtain ⟨q1, q2⟩ := low i li
        have lm : W - (i + 1) < m := by clear top low ih; omega
        rw [decide_eq_true d, Int.toNat_natCast, show (x i != 2) = true from bne_iff_ne.2 q1, show (y i != 2) = true from bne_iff_ne.2 q2]
        exact ih (i + 1) li lm
  have hq : qsum_s op (W : Int) x y = (bif (n : Int) == (0 : Int) then qnon_s else (qwrd_s (n : Int) (rapp_s op (n : Int) ((qnum_s (n : Int) x).1) ((qnum_s (n : Int) y).1)))) := by
    unfold qsum_s
    refine key _ 0 (Nat.zero_le _) ?_
    clear top low key; omega
  rw [hq]
  by_cases c : n = 0
  · have c0 : (((n : Nat) : Int) == (0 : Int)) = true := by rw [c]; rfl
    refine ⟨0, 0, ?_, ?_, OkB.zero W⟩
    · rw [c0, cond_true]; rfl
    · rw [c0, cond_true]; exact qnon_is
  · rw [show (((n : Nat) : Int) == (0 : Int)) = false from beq_eq_false_iff_ne.2 (fun h => c (Int.ofNat_eq_zero.1 h)), cond_false, cond_false]
    have n64 : n ≤ 64 := Nat.le_trans nW hW
    have hc : cw (n : Int) = n := cw_of (Nat.pos_of_ne_zero c) n64
    have pn : 0 < 2 ^ n := Nat.two_pow_pos n
    have hp := pow_le64 n64
    have hA := apply_lt op (W := n) (Nat.pos_of_ne_zero c) (Nat.mod_lt O pn) (Nat.mod_lt P pn)
    have ox : O % 2 ^ n < 2 ^ 64 := Nat.lt_of_lt_of_le (Nat.mod_lt _ pn) hp
    have px : P % 2 ^ n < 2 ^ 64 := Nat.lt_of_lt_of_le (Nat.mod_lt _ pn) hp
    rw [qnum_is rfl n64 h2, qnum_is rfl n64 h4, if_pos (fun j hj => (low j hj).1), if_pos (fun j hj => (low j hj).2)]
    simp only
    have e1 : rapp_s op (n : Int) ((O % 2 ^ n : Nat) : Int) ((P % 2 ^ n : Nat) : Int) = ((applyN op n (O % 2 ^ n) (P % 2 ^ n) : Nat) : Int) := by
      have q := rapp_eq op (n : Int) _ _ ox px
      rw [hc, Nat.mod_mod, Nat.mod_mod] at q
      exact q
    have e2 : apply1_s op (n : Int) (O : Int) (P : Int) = ((applyN op n (O % 2 ^ n) (P % 2 ^ n) : Nat) : Int) := by
      have q := apply1_eq op (n : Int) _ _ o64 p64
      rw [hc] at q
      exact q
    rw [e1, e2]
    have hv := Nat.lt_of_lt_of_le hA hp
    generalize applyN op n (O % 2 ^ n) (P % 2 ^ n) = v at *
    obtain ⟨A, B, r1, r2, r3⟩ := word_row (Nat.pos_of_ne_zero c) n64 hv rfl rfl
    exact ⟨A, B, r1, r2, r3.mono nW⟩
end
end Go.Proofs.YtdfifogicefkjaaGreatDoor.Sx.M5
/- KnownTells: shifts by what is known. -/
open Go Go.Proofs Go.RowKit
namespace Go.Proofs.YtdfifogicefkjaaGreatDoor.Sx.M5
set_option linter.unusedVariables false
set_option linter.unusedSimpArgs false
theorem krig_same {W Z O : Nat} (hW1 : 1 ≤ W) (hW : W ≤ 64) {z0 e0 : Nat} (hz : z0 < 2 ^ 64) (he : e0 < 2 ^ 64) (h1 : z0 % 2 ^ W = Z) (h2 : e0 % 2 ^ W = O) (hd : Dj Z O) : krig_s (W : Int) (z0 : Int) (e0 : Int) = ((Z : Int), (O : Int)) := by
  have hc : cw (W : Int) = W := cw_of hW1 hW
  have hp := pow_le64 hW
  have l1 : Z < 2 ^ W := h1 ▸ Nat.mod_lt _ (Nat.two_pow_pos W)
  have l2 : O < 2 ^ W := h2 ▸ Nat.mod_lt _ (Nat.two_pow_pos W)
  unfold krig_s
  rw [cut_eq _ z0 hz, cut_eq _ e0 he, hc, h1, h2, and_nat _ _ (Nat.lt_of_lt_of_le l1 hp) (Nat.lt_of_lt_of_le l2 hp), (dj_iff _ _).1 hd]
  rfl
section
variable {W Z O Y P : Nat} {x y : Nat → Int}
theorem krig_idem (hW1 : 1 ≤ W) (hW : W ≤ 64) (h : OkB W Z O) : krig_s (W : Int) (Z : Int) (O : Int) = ((Z : Int), (O : Int)) :=
  krig_same hW1 hW (h.z64 hW) (h.o64 hW) (Nat.mod_eq_of_lt h.lz) (Nat.mod_eq_of_lt h.lo) h.dj
/-- A place of a row that is moved. -/
def sh (op : Int) (W n : Nat) (x : Nat → Int) (j : Nat) : Int := if op = 16 then (if n ≤ j then x (j - n) else 0) else if j + n < W then x (j + n) else if op = 18 then x (W - 1) else 0
theorem shi_step (op : Int) (hW1 : 1 ≤ W) {n i m : Nat} (hn : n ≤ W) (hi : i < W) (f : Nat → Int) : qshi_l0 op (W : Int) x y (m + 1) (n : Int) f (i : Int) = qshi_l0 op (W : Int) x y m (n : Int) (upd f i (sh op W n x i)) ((i + 1 : Nat) : Int) := by
  rw [qshi_l0, decide_eq_true (Int.ofNat_lt.2 hi), cond_true, Int.toNat_natCast]
  have ew : (((W : Int) - 1).toNat) = W - 1 := by omega
  rw [ew]
  unfold sh
  by_cases o : op = 16
  · rw [if_pos o, show (op == (16 : Int)) = true from beq_iff_eq.2 o, cond_true]
    by_cases c : n ≤ i
    · have e : ((i : Int) - (n : Int)).toNat = i - n := by omega
      rw [if_pos c, decide_eq_true (show (i : Int) - (n : Int) ≥ 0 by omega), cond_true, decide_eq_true (show (i : Int) - (n : Int) < (W : Int) by omega), cond_true, e]
      rfl
    · rw [if_neg c, decide_eq_false (show ¬ (i : Int) - (n : Int) ≥ 0 by omega), cond_false, show (op == (18 : Int)) = false from beq_eq_false_iff_ne.2 (by omega), cond_false]
      rfl
  · have e : ((i : Int) + (n : Int)).toNat = i + n := by omega
    rw [if_neg o, show (op == (16 : Int)) = false from beq_eq_false_iff_ne.2 o, cond_false, decide_eq_true (show (i : Int) + (n : Int) ≥ 0 by omega), cond_true]
    by_cases c : i + n < W
    · rw [if_pos c, decide_eq_true (show (i : Int) + (n : Int) < (W : Int) by omega), cond_true, e]
      rfl
    · rw [if_neg c, decide_eq_false (show ¬ (i : Int) + (n : Int) < (W : Int) by omega), cond_false]
      by_cases o2 : op = 18
      · rw [if_pos o2, show (op == (18 : Int)) = true from beq_iff_eq.2 o2, cond_true]; rfl
      · rw [if_neg o2, show (op == (18 : Int)) = false from beq_eq_false_iff_ne.2 o2, cond_false]; rfl
theorem shi_row (op : Int) (hW1 : 1 ≤ W) (hW : W ≤ 64) {n : Nat} (hn : n ≤ W) {A B : Nat} (hA : A < 2 ^ W) (hB : B < 2 ^ W) (h : ∀ j, j < W → sh op W n x j = pt A B j) : RowIs (qshi_c7 op (W : Int) x y (n : Int)) A B := by
  have key : ∀ (m i : Nat) (f : Nat → Int), (∀ j, j < i → f j = pt A B j) → (∀ j, i ≤ j → j < 64 → f j = 2) → i ≤ W → W - i < m → ∀ j, j < 64 → qshi_l0 op (W : Int) x y m (n : Int) f (i : Int) j = pt A B j := by
    intro m
    induction m with
    | zero => intro i f _ _ _ hm; exact absurd hm (Nat.not_lt_zero _)
    | succ m ih =>
      intro i f hf hg hi hm j hj
      by_cases c : i < W
      · rw [shi_step op hW1 hn c, h i c]
        have lm : W - (i + 1) < m := by clear hf hg ih h; omega
        refine ih (i + 1) _ (fun k hk => ?_) (fun k hk hk2 => ?_) c lm j hj
        · rw [upd_at]; split
          · rename_i q; rw [q]
          · rename_i q; exact hf k (Nat.lt_of_le_of_ne (Nat.le_of_lt_succ hk) q)
        · rw [upd_at, if_neg (by omega)]; exact hg k (by omega) hk2
      · rw [qshi_l0, decide_eq_false (show ¬ (i : Int) < (W : Int) by omega), cond_false]
        by_cases q : j < i
        · exact hf j q
        · rw [hg j (by omega) hj, pt_hi hA hB (by omega)]
  intro j hj
  unfold qshi_c7
  exact key _ 0 _ (fun j hj => absurd hj (Nat.not_lt_zero _)) (fun k _ hk => by rw [qnon_is k hk]; unfold pt; simp) (Nat.zero_le _) (by omega) j hj
/-- What a shift answers: a row, as it is moved. -/
def Sh (op : Int) (W n : Nat) (x : Nat → Int) (k : Int × Int) : Prop := ∃ A B : Nat, k = ((A : Int), (B : Int)) ∧ OkB W A B ∧ ∀ j, j < W → sh op W n x j = pt A B j
theorem dj_of {A B : Nat} (hB : B < 2 ^ W) (h : ∀ j, j < W → A.testBit j = true → B.testBit j = false) : Dj A B := fun j hj => by
  by_cases c : j < W
  · exact h j c hj
  · exact bit_hi hB (Nat.le_of_not_lt c)
theorem in_bit (hW : W ≤ 64) (s j : Nat) : ((2 ^ W - 1) &&& (2 ^ 64 - 1 - (2 ^ W - 1) / 2 ^ s)).testBit j = (decide (j < W) && !decide (j + s < W)) := by
  have hp := pow_le64 hW
  have hd : (2 ^ W - 1) / 2 ^ s ≤ 2 ^ W - 1 := Nat.div_le_self _ _
  have p0 := Nat.two_pow_pos W
  rw [Nat.testBit_and, Nat.testBit_two_pow_sub_one]
  by_cases c : j < W
  · rw [compl_bit (by omega) (by omega), divb, Nat.testBit_two_pow_sub_one]
  · rw [decide_eq_false c]; rfl
theorem kin_is (hW1 : 1 ≤ W) (hW : W ≤ 64) (z e : Int) {s : Nat} (hs : s ≤ 64) : kin_s z e (W : Int) (s : Int) = (((2 ^ W - 1) &&& (2 ^ 64 - 1 - (2 ^ W - 1) / 2 ^ s) : Nat) : Int) := by
  have hp := pow_le64 hW
  have hd : (2 ^ W - 1) / 2 ^ s ≤ 2 ^ W - 1 := Nat.div_le_self _ _
  have p0 := Nat.two_pow_pos W
  unfold kin_s
  rw [mask_eq, cw_of hW1 hW, Int.toNat_natCast, shr_nat _ _ hs, andNot_nat _ _ (by omega) (by omega)]
theorem in_lt {s : Nat} : (2 ^ W - 1) &&& (2 ^ 64 - 1 - (2 ^ W - 1) / 2 ^ s) < 2 ^ W := by
  have p0 := Nat.two_pow_pos W
  exact Nat.lt_of_le_of_lt Nat.and_le_left (by omega)
theorem div_lt {a s : Nat} (h : a < 2 ^ W) : a / 2 ^ s < 2 ^ W := Nat.lt_of_le_of_lt (Nat.div_le_self _ _) h
theorem kdow_is (hW1 : 1 ≤ W) (hW : W ≤ 64) (h1 : OkB W Z O) {s : Nat} (hs : s ≤ 64) : kdow_s (Z : Int) (O : Int) (W : Int) (s : Int) = (((Z / 2 ^ s ||| ((2 ^ W - 1) &&& (2 ^ 64 - 1 - (2 ^ W - 1) / 2 ^ s)) : Nat) : Int), ((O / 2 ^ s : Nat) : Int)) := by
  have hp := pow_le64 hW
  unfold kdow_s
  rw [kin_is hW1 hW _ _ hs, Int.toNat_natCast, shr_nat _ _ hs, shr_nat _ _ hs, or_nat _ _ (Nat.lt_of_lt_of_le (div_lt h1.lz) hp) (Nat.lt_of_lt_of_le in_lt hp)]
theorem down_sh (op : Int) (hW1 : 1 ≤ W) (hW : W ≤ 64) (h1 : OkB W Z O) (h2 : RowIs x Z O) (s : Nat) (ho : op ≠ 16) (h0 : op = 18 → Z.testBit (W - 1) = true) :
    OkB W (Z / 2 ^ s ||| ((2 ^ W - 1) &&& (2 ^ 64 - 1 - (2 ^ W - 1) / 2 ^ s))) (O / 2 ^ s) ∧ ∀ j, j < W → sh op W s x j = pt (Z / 2 ^ s ||| ((2 ^ W - 1) &&& (2 ^ 64 - 1 - (2 ^ W - 1) / 2 ^ s))) (O / 2 ^ s) j := by
  refine ⟨⟨Nat.or_lt_two_pow (div_lt h1.lz) in_lt, div_lt h1.lo, fun j hj => ?_⟩, fun j hj => ?_⟩
  · rw [Nat.testBit_or, in_bit hW, divb] at hj
    rw [divb]
    by_cases c : j + s < W
    · rw [decide_eq_true c, Bool.not_true, Bool.and_false, Bool.or_false] at hj
      exact h1.dj _ hj
    · exact bit_hi h1.lo (Nat.le_of_not_lt c)
  · unfold sh pt
    rw [if_neg ho, Nat.testBit_or, in_bit hW, divb, divb, decide_eq_true hj]
    by_cases c : j + s < W
    · rw [if_pos c, decide_eq_true c, h2 _ (by omega)]
      simp [pt]
    · rw [if_neg c, decide_eq_false c, bit_hi h1.lo (Nat.le_of_not_lt c)]
      by_cases o : op = 18
      · rw [if_pos o, h2 _ (by omega)]
        have e := h0 o
        have d := h1.dj _ e
        simp [pt, e, d]
      · rw [if_neg o]; simp
theorem kdow_sh (op : Int) (hW1 : 1 ≤ W) (hW : W ≤ 64) (h1 : OkB W Z O) (h2 : RowIs x Z O) {s : Nat} (hs : s ≤ 64) (ho : op ≠ 16) (h0 : op ≠ 18) : Sh op W s x (kdow_s (Z : Int) (O : Int) (W : Int) (s : Int)) := by
  obtain ⟨a, b⟩ := down_sh op hW1 hW h1 h2 s ho (fun h => absurd h h0)
  exact ⟨_, _, kdow_is hW1 hW h1 hs, a, b⟩
theorem top_and {a : Nat} (hW1 : 1 ≤ W) : (a &&& 2 ^ (W - 1) = 0) ↔ a.testBit (W - 1) = false := by
  rw [and0_iff]
  constructor
  · intro h
    cases c : a.testBit (W - 1) with
    | false => rfl
    | true =>
      have := h _ c
      rw [Nat.testBit_two_pow_self] at this; cases this
  · intro h i hi
    rw [Nat.testBit_two_pow]
    refine decide_eq_false fun e => ?_
    rw [e, hi] at h; cases h
theorem ksig_sh (op : Int) (hW1 : 1 ≤ W) (hW : W ≤ 64) (h1 : OkB W Z O) (h2 : RowIs x Z O) {s : Nat} (hs : s ≤ 64) (ho : op = 18) : Sh op W s x (ksig_s (Z : Int) (O : Int) (W : Int) (s : Int)) := by
  have hp := pow_le64 hW
  have z64 := h1.z64 hW
  have o64 := h1.o64 hW
  have pt64 : 2 ^ (W - 1) < 2 ^ 64 := Nat.pow_lt_pow_right (by decide) (by omega)
  have n16 : op ≠ 16 := by omega
  have ew : (((W : Int) - 1).toNat) = W - 1 := by omega
  unfold ksig_s
  rw [kin_is hW1 hW _ _ hs, ew, Int.toNat_natCast, show (1 : Int) = ((1 : Nat) : Int) from rfl, shl_nat _ _ (by omega), Nat.one_mul, Nat.mod_eq_of_lt pt64, and_nat _ _ z64 pt64, and_nat _ _ o64 pt64, shr_nat _ _ hs, shr_nat _ _ hs, or_nat _ _ (Nat.lt_of_lt_of_le (div_lt h1.lz) hp) (Nat.lt_of_lt_of_le in_lt hp), or_nat _ _ (Nat.lt_of_lt_of_le (div_lt h1.lo) hp) (Nat.lt_of_lt_of_le in_lt hp)]
  cases cz : Z.testBit (W - 1) with
  | true =>
    have n0 : ¬ (Z &&& 2 ^ (W - 1) = 0) := fun h => by rw [(top_and hW1).1 h] at cz; cases cz
    rw [show (((Z &&& 2 ^ (W - 1) : Nat) : Int) != (0 : Int)) = true from bne_iff_ne.2 (by omega), cond_true]
    obtain ⟨a, b⟩ := down_sh op hW1 hW h1 h2 s n16 (fun _ => cz)
    exact ⟨_, _, rfl, a, b⟩
  | false =>
    rw [(top_and hW1).2 cz, show (((0 : Nat) : Int) != (0 : Int)) = false from rfl, cond_false]
    cases co : O.testBit (W - 1) with
    | true =>
      have n0 : ¬ (O &&& 2 ^ (W - 1) = 0) := fun h => by rw [(top_and hW1).1 h] at co; cases co
      rw [show (((O &&& 2 ^ (W - 1) : Nat) : Int) != (0 : Int)) = true from bne_iff_ne.2 (by omega), cond_true]
      refine ⟨_, _, rfl, ⟨div_lt h1.lz, Nat.or_lt_two_pow (div_lt h1.lo) in_lt, dj_of (Nat.or_lt_two_pow (div_lt h1.lo) in_lt) fun j hj hz => ?_⟩, fun j hj => ?_⟩
      · rw [divb] at hz
        rw [Nat.testBit_or, in_bit hW, divb]
        have c : j + s < W := bit_lt h1.lz hz
        rw [h1.dj _ hz, decide_eq_true c]; simp
      · unfold sh pt
        rw [if_neg n16, Nat.testBit_or, in_bit hW, divb, divb, decide_eq_true hj]
        by_cases c : j + s < W
        · rw [if_pos c, decide_eq_true c, h2 _ (by omega)]
          simp [pt]
        · rw [if_neg c, decide_eq_false c, if_pos ho, h2 _ (by omega)]
          simp [pt, co]
    | false =>
      rw [(top_and hW1).2 co, show (((0 : Nat) : Int) != (0 : Int)) = false from rfl, cond_false]
      refine ⟨_, _, rfl, ⟨div_lt h1.lz, div_lt h1.lo, fun j hz => ?_⟩, fun j hj => ?_⟩
      · rw [divb] at hz ⊢
        exact h1.dj _ hz
      · unfold sh pt
        rw [if_neg n16, divb, divb]
        by_cases c : j + s < W
        · rw [if_pos c, h2 _ (by omega)]
          simp [pt]
        · rw [if_neg c, if_pos ho, h2 _ (by omega), bit_hi h1.lo (Nat.le_of_not_lt c), bit_hi h1.lz (Nat.le_of_not_lt c)]
          simp [pt, co, cz]
theorem kup_sh (op : Int) (hW1 : 1 ≤ W) (hW : W ≤ 64) (h1 : OkB W Z O) (h2 : RowIs x Z O) {s : Nat} (hs : s < 64) (ho : op = 16) : Sh op W s x (kup_s (Z : Int) (O : Int) (W : Int) (s : Int)) := by
  have ps : 2 ^ s < 2 ^ 64 := Nat.pow_lt_pow_right (by decide) hs
  have p0 := Nat.two_pow_pos s
  have m0 : ∀ a : Nat, a % 2 ^ 64 < 2 ^ 64 := fun a => Nat.mod_lt _ (by decide)
  have e1 : IntKind.u64.wrap (((2 ^ s : Nat) : Int) - ((1 : Nat) : Int)) = ((2 ^ s - 1 : Nat) : Int) := by rw [u64_small (by omega) (by omega)]; omega
  have hz : Z * 2 ^ s % 2 ^ 64 ||| (2 ^ s - 1) < 2 ^ 64 := Nat.or_lt_two_pow (m0 _) (by omega)
  have bz : ∀ j, ((Z * 2 ^ s % 2 ^ 64 ||| (2 ^ s - 1)) % 2 ^ W).testBit j = (decide (j < W) && (if s ≤ j then Z.testBit (j - s) else true)) := fun j => by
    rw [of_bit]
    by_cases c : j < W
    · rw [decide_eq_true c, Bool.true_and, Bool.true_and, Nat.testBit_or, of_bit, decide_eq_true (show j < 64 by omega), Bool.true_and, mulb, Nat.testBit_two_pow_sub_one]
      by_cases d : s ≤ j
      · rw [if_pos d, decide_eq_true d, decide_eq_false (by omega)]; simp
      · rw [if_neg d, decide_eq_true (show j < s by omega)]; simp
    · rw [decide_eq_false c]; rfl
  have bo : ∀ j, ((O * 2 ^ s % 2 ^ 64) % 2 ^ W).testBit j = (decide (j < W) && (if s ≤ j then O.testBit (j - s) else false)) := fun j => by
    rw [of_bit]
    by_cases c : j < W
    · rw [decide_eq_true c, Bool.true_and, Bool.true_and, of_bit, decide_eq_true (show j < 64 by omega), Bool.true_and, mulb]
      by_cases d : s ≤ j
      · rw [if_pos d, decide_eq_true d]; simp
      · rw [if_neg d, decide_eq_false d]; rfl
    · rw [decide_eq_false c]; rfl
  unfold kup_s
  rw [Int.toNat_natCast, show (1 : Int) = ((1 : Nat) : Int) from rfl, shl_nat _ _ (by omega), shl_nat _ _ (by omega), shl_nat _ _ (by omega), Nat.one_mul, Nat.mod_eq_of_lt ps, e1, or_nat _ _ (m0 _) (by omega)]
  generalize hA : (Z * 2 ^ s % 2 ^ 64 ||| (2 ^ s - 1)) % 2 ^ W = A at *
  generalize hB : (O * 2 ^ s % 2 ^ 64) % 2 ^ W = B at *
  have dj : Dj A B := fun j hj => by
    rw [bz j] at hj
    rw [bo j]
    by_cases c : j < W
    · rw [decide_eq_true c, Bool.true_and] at hj ⊢
      by_cases d : s ≤ j
      · rw [if_pos d] at hj ⊢; exact h1.dj _ hj
      · rw [if_neg d]
    · rw [decide_eq_false c]; rfl
  refine ⟨A, B, ?_, ⟨hA ▸ Nat.mod_lt _ (Nat.two_pow_pos W), hB ▸ Nat.mod_lt _ (Nat.two_pow_pos W), dj⟩, fun j hj => ?_⟩
  · rw [krig_same hW1 hW hz (m0 _) hA hB dj]
  · unfold sh pt
    rw [if_pos ho, bz j, bo j, decide_eq_true hj, Bool.true_and, Bool.true_and]
    by_cases d : s ≤ j
    · rw [if_pos d, if_pos d, if_pos d, h2 _ (by omega)]; rfl
    · rw [if_neg d, if_neg d, if_neg d]; rfl
theorem kof_sh (op : Int) (hW1 : 1 ≤ W) (hW : W ≤ 64) (ho : op ≠ 18) : Sh op W W x (kof_s (W : Int) 0) := by
  have e := kof_eq (W : Int) (x := 0) (by decide)
  rw [cw_of hW1 hW, Nat.zero_mod] at e
  refine ⟨2 ^ W - 1 - 0, 0, e, of_ok W (Nat.two_pow_pos W), fun j hj => ?_⟩
  unfold sh pt
  rw [Nat.sub_zero, Nat.zero_testBit, Nat.testBit_two_pow_sub_one, decide_eq_true hj, if_neg (show ¬ j + W < W by omega), if_neg ho, if_neg (show ¬ W ≤ j by omega)]
  by_cases o : op = 16
  · rw [if_pos o]; rfl
  · rw [if_neg o]; rfl
theorem pair_eta (k : Int × Int) : (k.1, k.2) = k := rfl
theorem sh_last (op : Int) (hW1 : 1 ≤ W) (ho : op = 18) : ∀ j, j < W → sh op W W x j = sh op W (W - 1) x j := fun j hj => by
  unfold sh
  rw [if_neg (show ¬ op = 16 by omega), if_neg (show ¬ op = 16 by omega), if_neg (show ¬ j + W < W by omega), if_pos ho]
  by_cases c : j + (W - 1) < W
  · rw [if_pos c, show j + (W - 1) = W - 1 by omega]
  · rw [if_neg c]
theorem shift_row (op : Int) (ho : op = 16 ∨ op = 17 ∨ op = 18) (hW1 : 1 ≤ W) (hW : W ≤ 64) (h1 : OkB W Z O) (h2 : RowIs x Z O) (h3 : OkB W Y P) (h4 : RowIs y Y P) :
    ∃ A B : Nat, kmov_s (Z : Int) (O : Int) (W : Int) (Y : Int) (P : Int) (W : Int) op = ((A : Int), (B : Int)) ∧ RowIs (qshi_s op (W : Int) x y) A B ∧ OkB W A B := by
  have hc : cw (W : Int) = W := cw_of hW1 hW
  have o64 := h3.o64 hW
  have hk : knum_s (W : Int) (Y : Int) (P : Int) = if Y = 2 ^ W - 1 - P then ((P : Int), true) else (0, false) := by
    have q := knum_both (W : Int) (krig_idem hW1 hW h3) (hc.symm ▸ h3)
    rw [hc] at q; exact q
  have hq : qnum_s (W : Int) y = if Y = 2 ^ W - 1 - P then ((P : Int), true) else (0, false) := by
    have q := qnum_row (w := (W : Int)) (hc.symm ▸ h3) h4
    rw [hc] at q; exact q
  have uw : IntKind.u64.wrap (W : Int) = (W : Int) := u64_small (by omega) (by omega)
  have uw1 : IntKind.u64.wrap ((W : Int) - 1) = ((W - 1 : Nat) : Int) := by rw [u64_small (by omega) (by omega)]; omega
  unfold kmov_s qshi_s
  rw [hk, hq, uw, uw1]
  by_cases c : Y = 2 ^ W - 1 - P
  · rw [if_pos c]
    simp only [Bool.not_true, cond_false, pair_eta]
    have fin : ∀ (n : Nat) (k : Int × Int), n ≤ W → Sh op W n x k → ∃ A B : Nat, k = ((A : Int), (B : Int)) ∧ RowIs (qshi_c7 op (W : Int) x y (n : Int)) A B ∧ OkB W A B := fun n k hn hs => by
      obtain ⟨A, B, e1, e2, e3⟩ := hs
      exact ⟨A, B, e1, shi_row op hW1 hW hn e2.lz e2.lo e3, e2⟩
    by_cases d : P < W
    · rw [decide_eq_true (Int.ofNat_lt.2 d), decide_eq_false (show ¬ (P : Int) ≥ (W : Int) by omega)]
      simp only [cond_true, cond_false]
      refine fin P _ (Nat.le_of_lt d) ?_
      rcases ho with o | o | o
      · rw [show (op == (18 : Int)) = false from beq_eq_false_iff_ne.2 (by omega), show (op == (16 : Int)) = true from beq_iff_eq.2 o, cond_false, cond_true]
        exact kup_sh op hW1 hW h1 h2 (by omega) o
      · rw [show (op == (18 : Int)) = false from beq_eq_false_iff_ne.2 (by omega), show (op == (16 : Int)) = false from beq_eq_false_iff_ne.2 (by omega), cond_false, cond_false]
        exact kdow_sh op hW1 hW h1 h2 (by omega) (by omega) (by omega)
      · rw [show (op == (18 : Int)) = true from beq_iff_eq.2 o, cond_true]
        exact ksig_sh op hW1 hW h1 h2 (by omega) o
    · rw [decide_eq_false (show ¬ (P : Int) < (W : Int) by omega), decide_eq_true (show (P : Int) ≥ (W : Int) by omega)]
      simp only [cond_true, cond_false]
      refine fin W _ (Nat.le_refl W) ?_
      by_cases o : op = 18
      · rw [show (op == (18 : Int)) = true from beq_iff_eq.2 o, cond_true]
        obtain ⟨A, B, e1, e2, e3⟩ := ksig_sh op hW1 hW h1 h2 (s := W - 1) (by omega) o
        exact ⟨A, B, e1, e2, fun j hj => (sh_last op hW1 o j hj).trans (e3 j hj)⟩
      · rw [show (op == (18 : Int)) = false from beq_eq_false_iff_ne.2 o, cond_false]
        exact kof_sh op hW1 hW o
  · rw [if_neg c]
    simp only [Bool.not_false, cond_true]
    exact ⟨0, 0, rfl, qnon_is, OkB.zero W⟩
end
end Go.Proofs.YtdfifogicefkjaaGreatDoor.Sx.M5
/- KnownTells: the table, Apply, and the law. -/
open Go Go.Proofs Go.RowKit
namespace Go.Proofs.YtdfifogicefkjaaGreatDoor.Sx.M5
set_option linter.unusedVariables false
set_option linter.unusedSimpArgs false
section
variable {W Z O Y P : Nat} {x y : Nat → Int}
theorem and_w {a b : Nat} (hW : W ≤ 64) (ha : a < 2 ^ W) (hb : b < 2 ^ W) : Go.bits .and .u64 (a : Int) (b : Int) = ((a &&& b : Nat) : Int) := and_nat _ _ (Nat.lt_of_lt_of_le ha (pow_le64 hW)) (Nat.lt_of_lt_of_le hb (pow_le64 hW))
theorem or_w {a b : Nat} (hW : W ≤ 64) (ha : a < 2 ^ W) (hb : b < 2 ^ W) : Go.bits .or .u64 (a : Int) (b : Int) = ((a ||| b : Nat) : Int) := or_nat _ _ (Nat.lt_of_lt_of_le ha (pow_le64 hW)) (Nat.lt_of_lt_of_le hb (pow_le64 hW))
theorem xor_w {a b : Nat} (hW : W ≤ 64) (ha : a < 2 ^ W) (hb : b < 2 ^ W) : Go.bits .xor .u64 (a : Int) (b : Int) = ((a ^^^ b : Nat) : Int) := xor_nat _ _ (Nat.lt_of_lt_of_le ha (pow_le64 hW)) (Nat.lt_of_lt_of_le hb (pow_le64 hW))
theorem kof1 : kof_s 1 0 = (1, 0) := by
  have e := kof_eq 1 (x := 0) (by decide)
  exact e
theorem zero_row (r : Nat → Int) (h : r = qnon_s) (k : Int × Int) (hk : k = (0, 0)) : ∃ A B : Nat, k = ((A : Int), (B : Int)) ∧ RowIs r A B ∧ OkB W A B := ⟨0, 0, hk, h ▸ qnon_is, OkB.zero W⟩
set_option maxHeartbeats 1000000 in
theorem tab_row (op : Int) (hW1 : 1 ≤ W) (hW : W ≤ 64) (h1 : OkB W Z O) (h2 : RowIs x Z O) (h3 : OkB W Y P) (h4 : RowIs y Y P) :
    ∃ A B : Nat, ktab_s (Z : Int) (O : Int) (W : Int) (Y : Int) (P : Int) (W : Int) op = ((A : Int), (B : Int)) ∧ RowIs (qrow_s op (W : Int) x y) A B ∧ OkB W A B := by
  by_cases o5 : op = 5
  · subst o5
    obtain ⟨a, b⟩ := row5 (y := y) hW h1 h2
    exact ⟨O, Z, by simp only [ktab_s, Int.reduceBEq, cond_true, cond_false], a, b⟩
  by_cases o13 : op = 13
  · subst o13
    obtain ⟨a, b⟩ := row13 hW h1 h2 h3 h4
    exact ⟨_, _, by simp only [ktab_s, Int.reduceBEq, cond_true, cond_false]; rw [or_w hW h1.lz h3.lz, and_w hW h1.lo h3.lo], a, b⟩
  by_cases o14 : op = 14
  · subst o14
    obtain ⟨a, b⟩ := row14 hW h1 h2 h3 h4
    exact ⟨_, _, by simp only [ktab_s, Int.reduceBEq, cond_true, cond_false]; rw [and_w hW h1.lz h3.lz, or_w hW h1.lo h3.lo], a, b⟩
  by_cases o15 : op = 15
  · subst o15
    obtain ⟨a, b⟩ := row15 hW h1 h2 h3 h4
    have l1 : Z ||| O < 2 ^ W := Nat.or_lt_two_pow h1.lz h1.lo
    have l2 : Y ||| P < 2 ^ W := Nat.or_lt_two_pow h3.lz h3.lo
    have l3 : O ^^^ P < 2 ^ W := Nat.xor_lt_two_pow h1.lo h3.lo
    have l4 : (O ^^^ P) &&& (Z ||| O) < 2 ^ W := Nat.and_lt_two_pow _ l1
    have l5 : ((O ^^^ P) &&& (Z ||| O)) &&& (Y ||| P) < 2 ^ W := Nat.and_lt_two_pow _ l2
    have l6 : (Z ||| O) &&& (Y ||| P) < 2 ^ W := Nat.and_lt_two_pow _ l2
    have hp := pow_le64 hW
    exact ⟨_, _, by
      simp only [ktab_s, Int.reduceBEq, cond_true, cond_false, kall_s]
      rw [or_w hW h1.lz h1.lo, or_w hW h3.lz h3.lo, xor_w hW h1.lo h3.lo, and_w hW l3 l1, and_w hW l4 l2, and_w hW l1 l2, andNot_nat _ _ (Nat.lt_of_lt_of_le l6 hp) (Nat.lt_of_lt_of_le l5 hp)]
      rfl, a, b⟩
  by_cases o8 : op = 8
  · subst o8
    obtain ⟨A, B, e1, e2, e3⟩ := sum_row 8 hW1 hW h1 h2 h3 h4
    exact ⟨A, B, by simp only [ktab_s, Int.reduceBEq, cond_true, cond_false]; exact e1, by simp only [qrow_s, Int.reduceBEq, cond_true, cond_false]; exact e2, e3⟩
  by_cases o9 : op = 9
  · subst o9
    obtain ⟨A, B, e1, e2, e3⟩ := sum_row 9 hW1 hW h1 h2 h3 h4
    exact ⟨A, B, by simp only [ktab_s, Int.reduceBEq, cond_true, cond_false]; exact e1, by simp only [qrow_s, Int.reduceBEq, cond_true, cond_false]; exact e2, e3⟩
  by_cases o10 : op = 10
  · subst o10
    obtain ⟨A, B, e1, e2, e3⟩ := sum_row 10 hW1 hW h1 h2 h3 h4
    exact ⟨A, B, by simp only [ktab_s, Int.reduceBEq, cond_true, cond_false]; exact e1, by simp only [qrow_s, Int.reduceBEq, cond_true, cond_false]; exact e2, e3⟩
  by_cases o16 : op = 16
  · subst o16
    obtain ⟨A, B, e1, e2, e3⟩ := shift_row 16 (.inl rfl) hW1 hW h1 h2 h3 h4
    exact ⟨A, B, by simp only [ktab_s, Int.reduceBEq, cond_true, cond_false]; exact e1, by simp only [qrow_s, Int.reduceBEq, cond_true, cond_false]; exact e2, e3⟩
  by_cases o17 : op = 17
  · subst o17
    obtain ⟨A, B, e1, e2, e3⟩ := shift_row 17 (.inr (.inl rfl)) hW1 hW h1 h2 h3 h4
    exact ⟨A, B, by simp only [ktab_s, Int.reduceBEq, cond_true, cond_false]; exact e1, by simp only [qrow_s, Int.reduceBEq, cond_true, cond_false]; exact e2, e3⟩
  by_cases o18 : op = 18
  · subst o18
    obtain ⟨A, B, e1, e2, e3⟩ := shift_row 18 (.inr (.inr rfl)) hW1 hW h1 h2 h3 h4
    exact ⟨A, B, by simp only [ktab_s, Int.reduceBEq, cond_true, cond_false]; exact e1, by simp only [qrow_s, Int.reduceBEq, cond_true, cond_false]; exact e2, e3⟩
  by_cases o19 : op = 19
  · subst o19
    have r := row19 hW1 hW h1 h2 h3 h4
    refine ⟨_, 0, ?_, r, ?_⟩
    · simp only [ktab_s, Int.reduceBEq, cond_true, cond_false]
      rw [and_w hW h1.lo h3.lz, and_w hW h1.lz h3.lo, kof1]
      by_cases c : O &&& Y = 0
      · rw [show (((O &&& Y : Nat) : Int) != (0 : Int)) = false from bne_eq_false_iff_eq.2 (by omega), cond_false]
        by_cases d : Z &&& P = 0
        · rw [show (((Z &&& P : Nat) : Int) != (0 : Int)) = false from bne_eq_false_iff_eq.2 (by omega), cond_false, if_pos ⟨c, d⟩]; rfl
        · rw [show (((Z &&& P : Nat) : Int) != (0 : Int)) = true from bne_iff_ne.2 (by omega), cond_true, if_neg (fun h => d h.2)]; rfl
      · rw [show (((O &&& Y : Nat) : Int) != (0 : Int)) = true from bne_iff_ne.2 (by omega), cond_true, if_neg (fun h => c h.1)]; rfl
    · refine ⟨?_, Nat.two_pow_pos W, fun j _ => Nat.zero_testBit j⟩
      have : 2 ^ 1 ≤ 2 ^ W := Nat.pow_le_pow_right (by decide) hW1
      split <;> omega
  refine zero_row _ ?_ _ ?_
  · simp only [qrow_s, beq_eq_false_iff_ne.2 o5, beq_eq_false_iff_ne.2 o8, beq_eq_false_iff_ne.2 o9, beq_eq_false_iff_ne.2 o10, beq_eq_false_iff_ne.2 o13, beq_eq_false_iff_ne.2 o14, beq_eq_false_iff_ne.2 o15, beq_eq_false_iff_ne.2 o16, beq_eq_false_iff_ne.2 o17, beq_eq_false_iff_ne.2 o18, beq_eq_false_iff_ne.2 o19, cond_false]
  · simp only [ktab_s, beq_eq_false_iff_ne.2 o5, beq_eq_false_iff_ne.2 o8, beq_eq_false_iff_ne.2 o9, beq_eq_false_iff_ne.2 o10, beq_eq_false_iff_ne.2 o13, beq_eq_false_iff_ne.2 o14, beq_eq_false_iff_ne.2 o15, beq_eq_false_iff_ne.2 o16, beq_eq_false_iff_ne.2 o17, beq_eq_false_iff_ne.2 o18, beq_eq_false_iff_ne.2 o19, cond_false]
end
theorem bif_same {α : Type} {b : Bool} {x x' y y' : α} (h1 : x = x') (h2 : y = y') : (bif b then x else y) = (bif b then x' else y') := by rw [h1, h2]
theorem row_bits {W : Nat} (hW : W ≤ 64) {r : Nat → Int} {k : Int × Int} (h : ∃ A B : Nat, k = ((A : Int), (B : Int)) ∧ RowIs r A B ∧ OkB W A B) : k = ((qbit_s r).1, (qbit_s r).2) := by
  obtain ⟨A, B, e1, e2, e3⟩ := h
  rw [qbit_is e2 e3.dj (e3.z64 hW) (e3.o64 hW), e1]
theorem row_bits' {W : Nat} (hW : W ≤ 64) {r : Nat → Int} {k : Int × Int} (h : ∃ A B : Nat, k = ((A : Int), (B : Int)) ∧ RowIs r A B ∧ OkB W A B) : (k.1, k.2) = ((qbit_s r).1, (qbit_s r).2) := by
  obtain ⟨A, B, e1, e2, e3⟩ := h
  rw [qbit_is e2 e3.dj (e3.z64 hW) (e3.o64 hW), e1]
theorem maxw (w : Int) : max 1 (min w 64) = (cw w : Int) := by unfold cw; omega
theorem val_row {n : Nat} (h1 : 1 ≤ n) (h2 : n ≤ 64) (op w : Int) {x y : Int} (hx : 0 ≤ x ∧ x < 18446744073709551616) (hy : 0 ≤ y ∧ y < 18446744073709551616) :
    ((kof_s (n : Int) (apply1_s op w x y)).1, (kof_s (n : Int) (apply1_s op w x y)).2) = ((qbit_s (qwrd_s (n : Int) (rapp_s op w x y))).1, (qbit_s (qwrd_s (n : Int) (rapp_s op w x y))).2) := by
  obtain ⟨x0, rfl⟩ : ∃ k : Nat, x = k := ⟨x.toNat, by omega⟩
  obtain ⟨y0, rfl⟩ : ∃ k : Nat, y = k := ⟨y.toNat, by omega⟩
  have hc := cw_range w
  rw [word_same op w hx hy, rapp_eq op w x0 y0 (by omega) (by omega)]
  have hv := Nat.lt_of_lt_of_le (apply_lt op hc.1 (Nat.mod_lt x0 (Nat.two_pow_pos (cw w))) (Nat.mod_lt y0 (Nat.two_pow_pos (cw w)))) (pow_le64 hc.2)
  generalize applyN op (cw w) (x0 % 2 ^ cw w) (y0 % 2 ^ cw w) = v at *
  exact row_bits h2 (word_row h1 h2 hv rfl rfl)
theorem qapp_same (op w : Int) {a b c e : Int} (ha : 0 ≤ a ∧ a < 18446744073709551616) (hb : 0 ≤ b ∧ b < 18446744073709551616) (hc : 0 ≤ c ∧ c < 18446744073709551616) (he : 0 ≤ e ∧ e < 18446744073709551616) : kapp_s op w a b c e = qapp_s op w a b c e := by
  obtain ⟨hW1, hW⟩ := cw_range w
  have hcw : cw (cw w : Int) = cw w := cw_cw w
  obtain ⟨Z, O, k1, o1, r1⟩ := right_both (cw w : Int) ha hb
  obtain ⟨Y, P, k2, o2, r2⟩ := right_both (cw w : Int) hc he
  have n1 := knum_both _ k1 o1
  have n2 := knum_both _ k2 o2
  have q1 := qnum_row (w := (cw w : Int)) o1 r1
  have q2 := qnum_row (w := (cw w : Int)) o2 r2
  rw [hcw] at o1 o2 r1 r2 n1 n2 q1 q2
  have tab := row_bits' hW (tab_row op hW1 hW o1 r1 o2 r2)
  have p1 := knum_rng (cw w : Int) a b
  have p2 := knum_rng (cw w : Int) c e
  unfold kapp_s qapp_s
  rw [maxw, rwid_eq, q1.trans n1.symm, q2.trans n2.symm, k1, k2]
  generalize knum_s (cw w : Int) a b = p at *
  generalize knum_s (cw w : Int) c e = q at *
  have v1 := val_row (n := 1) (Nat.le_refl 1) (by decide) op (cw w : Int) p1 p2
  rw [show ((1 : Nat) : Int) = 1 from rfl] at v1
  have v : _ = _ := bif_same (b := decide (op ≥ (19 : Int))) v1 (val_row hW1 hW op (cw w : Int) p1 p2)
  exact bif_same rfl (bif_same rfl (bif_same rfl (bif_same rfl (bif_same (bif_same v (bif_same v tab)) tab))))
end Go.Proofs.YtdfifogicefkjaaGreatDoor.Sx.M5
