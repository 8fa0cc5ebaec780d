/- What bytes tell: both sides say the same. -/
import Derived.Test.YthfgakbigpnkhaaG1
import Derived.Test.YthfgakbigpnkhaaF2
open Go Go.Proofs Go.RowKit
namespace Go.Proofs.Ythfgakbigpnkhaa.Sx.C3
set_option linter.unusedVariables false
set_option linter.unusedSimpArgs false
abbrev GotT := Int × Int × Int × List Int × Int × Int × Int
def FF (e at_ : Int) : GotT := (0, 0, 0, [], 0, e, at_)
theorem fr4 (b : List Int) (m : Nat) : front_l0 b (m + 1) 4 = bif (4 : Int) == (b.length : Int) then FF 1 4 else (bif b.getD 4 0 != (1 : Int) then FF 2 4 else front_l0 b m 5) := by kernel_rfl
theorem fr5 (b : List Int) (m : Nat) : front_l0 b (m + 1) 5 = bif (5 : Int) == (b.length : Int) then FF 1 5 else (bif decide (b.getD 5 0 > (64 : Int)) then FF 3 5 else front_l0 b m 6) := by kernel_rfl
theorem fr6 (b : List Int) (m : Nat) : front_l0 b (m + 1) 6 = bif (6 : Int) == (b.length : Int) then FF 1 6 else (bif decide (b.getD 6 0 > (16 : Int)) then FF 3 6 else front_l0 b m 7) := by kernel_rfl
theorem fr7 (b : List Int) (m : Nat) : front_l0 b (m + 1) 7 = bif (7 : Int) == (b.length : Int) then FF 1 7 else (bif decide (b.getD 7 0 > (16 : Int)) then FF 3 7 else front_l0 b m 8) := by kernel_rfl
theorem fr8 (b : List Int) (m : Nat) : front_l0 b (m + 1) 8 = bif (8 : Int) == (b.length : Int) then FF 1 8 else (bif decide (b.getD 8 0 > b.getD 5 0) then FF 3 8 else front_l0 b m 9) := by kernel_rfl
theorem fr9 (b : List Int) (m : Nat) : front_l0 b (m + 1) 9 = bif decide ((b.length : Int) < 9 + b.getD 8 0) then FF 1 b.length else (b.getD 5 0, b.getD 6 0, b.getD 7 0, [] ++ ((b.take (9 + b.getD 8 0).toNat).drop 9), 9 + b.getD 8 0, 0, 0) := by kernel_rfl

theorem two_bif2 {α β : Type} {P : α → β → Prop} {b : Bool} {x y : α} {x' y' : β} (h1 : P x x') (h2 : P y y') : P (bif b then x else y) (bif b then x' else y') := by
  cases b with
  | true => exact h1
  | false => exact h2
def FR (f : GotT) (r : FrontT) : Prop := (f.2.2.2.2.2.1 ≠ 0 ∧ r = (true, f.2.2.2.2.2.1, f.2.2.2.2.2.2, 0, 0, 0, [], 0)) ∨ (f.2.2.2.2.2.1 = 0 ∧ f.2.2.2.2.2.2 = 0 ∧ r = (false, 0, 0, f.1, f.2.1, f.2.2.1, f.2.2.2.1, f.2.2.2.2.1))
theorem FR.err (e at_ : Int) (h : e ≠ 0) : FR (FF e at_) (true, e, at_, 0, 0, 0, [], 0) := .inl ⟨h, rfl⟩
theorem outr0 {x n : Int} (h : 0 ≤ x) : outr x 0 n = decide (x > n) := by
  unfold outr
  rw [decide_eq_false (by omega)]; rfl
theorem front_rel {b : List Int} (hb : Bytes b) : FR (front_s b) (ifront_s b) := by
  have g : ∀ i, 0 ≤ b.getD i 0 := fun i => (getD_b hb i).1
  unfold front_s ifront_s
  by_cases h4 : (b.length : Int) < 4
  · rw [decide_eq_true h4]; exact FR.err 1 _ (by decide)
  rw [decide_eq_false h4]
  simp only [cond_false]
  refine two_bif2 (P := FR) (FR.err 2 0 (by decide)) ?_
  rw [show ((9 - (4 : Int)).toNat + 1) = 0 + 1 + 1 + 1 + 1 + 1 + 1 from rfl, fr4]
  by_cases h5 : (b.length : Int) < 5
  · rw [decide_eq_true h5, show ((4 : Int) == (b.length : Int)) = true by simp; omega, show (b.length : Int) = 4 by omega]; exact FR.err 1 4 (by decide)
  rw [decide_eq_false h5, show ((4 : Int) == (b.length : Int)) = false by simp; omega, show ((b.take 5).drop 4).getD 0 0 = b.getD 4 0 from getD_dt (by decide)]
  simp only [cond_false]
  refine two_bif2 (P := FR) (FR.err 2 4 (by decide)) ?_
  rw [fr5, outr0 (g 5)]
  by_cases h6 : (b.length : Int) < 6
  · rw [decide_eq_true h6, show ((5 : Int) == (b.length : Int)) = true by simp; omega, show (b.length : Int) = 5 by omega]; exact FR.err 1 5 (by decide)
  rw [decide_eq_false h6, show ((5 : Int) == (b.length : Int)) = false by simp; omega]
  simp only [cond_false]
  refine two_bif2 (P := FR) (FR.err 3 5 (by decide)) ?_
  rw [fr6, outr0 (g 6)]
  by_cases h7 : (b.length : Int) < 7
  · rw [decide_eq_true h7, show ((6 : Int) == (b.length : Int)) = true by simp; omega, show (b.length : Int) = 6 by omega]; exact FR.err 1 6 (by decide)
  rw [decide_eq_false h7, show ((6 : Int) == (b.length : Int)) = false by simp; omega]
  simp only [cond_false]
  refine two_bif2 (P := FR) (FR.err 3 6 (by decide)) ?_
  rw [fr7, outr0 (g 7)]
  by_cases h8 : (b.length : Int) < 8
  · rw [decide_eq_true h8, show ((7 : Int) == (b.length : Int)) = true by simp; omega, show (b.length : Int) = 7 by omega]; exact FR.err 1 7 (by decide)
  rw [decide_eq_false h8, show ((7 : Int) == (b.length : Int)) = false by simp; omega]
  simp only [cond_false]
  refine two_bif2 (P := FR) (FR.err 3 7 (by decide)) ?_
  rw [fr8, outr0 (g 8)]
  by_cases h9 : (b.length : Int) < 9
  · rw [decide_eq_true h9, show ((8 : Int) == (b.length : Int)) = true by simp; omega, show (b.length : Int) = 8 by omega]; exact FR.err 1 8 (by decide)
  rw [decide_eq_false h9, show ((8 : Int) == (b.length : Int)) = false by simp; omega]
  simp only [cond_false]
  refine two_bif2 (P := FR) (FR.err 3 8 (by decide)) ?_
  rw [fr9]
  exact two_bif2 (P := FR) (FR.err 1 _ (by decide)) (.inr ⟨rfl, rfl, rfl⟩)
/-! functions and code -/
abbrev FunsT := Int × Int × Int × List Int × List Int × Int × Int × Int × Int
def GR (b : List Int) (at_ mem stack input : Int) (da : List Int) (f : FunsT) (r : RestT) : Prop :=
  (f.2.2.2.2.2.2.1 ≠ 0 ∧ r = (true, f.2.2.2.2.2.2.1, f.2.2.2.2.2.2.2.1, 0, 0, [], [])) ∨
  (f.2.2.2.2.2.2.1 = 0 ∧ f.1 = mem ∧ f.2.1 = stack ∧ f.2.2.1 = input ∧ f.2.2.2.1 = da ∧ r = rest_l1 b at_ mem stack input da ((256 - (0 : Int)).toNat + 1) 0 f.2.2.2.2.2.2.2.2 f.2.2.2.2.2.1 f.2.2.2.2.2.1 f.2.2.2.2.1 [] ∧
    0 ≤ f.2.2.2.2.2.1 ∧ f.2.2.2.2.2.1 ≤ b.length ∧ 1 ≤ f.2.2.2.2.2.2.2.2 ∧ f.2.2.2.2.2.2.2.2 ≤ 256 ∧ 0 < f.2.2.2.2.1.length ∧ f.2.2.2.2.1.length ≤ 16 ∧ f.2.2.2.2.1.getD 0 0 = 0 ∧ Inc f.2.2.2.2.1 ∧ f.2.2.2.2.1.getD (f.2.2.2.2.1.length - 1) 0 < f.2.2.2.2.2.2.2.2)
theorem GR.err {b : List Int} {at_ mem stack input : Int} {da : List Int} (e x : Int) (h : e ≠ 0) : GR b at_ mem stack input da (0, 0, 0, [], [], 0, e, x, 0) (true, e, x, 0, 0, [], []) := .inl ⟨h, rfl⟩
theorem outr_yes {x lo hi : Int} (h : x < lo ∨ x > hi) : outr x lo hi = true := by
  unfold outr
  rcases h with h | h
  · rw [decide_eq_true h]; rfl
  · rw [decide_eq_true h]; simp
theorem outr_no {x lo hi : Int} (h : lo ≤ x ∧ x ≤ hi) : outr x lo hi = false := by
  unfold outr
  rw [decide_eq_false (by omega), decide_eq_false (by omega)]; rfl
theorem funs_l0_rel {b : List Int} (hb : Bytes b) {at_ mem stack input : Int} {da : List Int} (hn : 1 ≤ b.getD at_.toNat 0 ∧ b.getD at_.toNat 0 ≤ 16) : ∀ (m : Nat) (i last pos : Int) (fs : List Int), (fs.length : Int) = i → i ≤ 16 → 0 ≤ pos → pos ≤ b.length → ((i = 0 ∧ last = -1) ∨ (1 ≤ i ∧ fs.getD 0 0 = 0 ∧ 0 ≤ last ∧ fs.getD (fs.length - 1) 0 = last)) → Inc fs → (16 - i).toNat < m →
    GR b at_ mem stack input da (rfuns_l0 b mem stack input da at_ 0 0 m i last pos fs) (rest_l0 b at_ mem stack input da m i last pos fs) := by
  intro m
  induction m with
  | zero => intros; rename_i hm; exact absurd hm (Nat.not_lt_zero _)
  | succ m ih =>
    intro i last pos fs h1 h2 h3 h4 h5 hI hm
    have x0 := getD_b hb pos.toNat
    have x1 := getD_b hb (pos + 1).toNat
    rw [rfuns_l0, rest_l0]
    unfold two_s
    obtain ⟨x, hx⟩ : ∃ x, 256 * b.getD pos.toNat 0 + b.getD (pos + 1).toNat 0 = x := ⟨_, rfl⟩
    rw [hx]
    have hxr : 0 ≤ x ∧ x ≤ 65535 := by omega
    by_cases hl : (b.length : Int) < pos + 2
    · -- it ends too soon
      rw [decide_eq_true hl]
      simp only [cond_true]
      cases decide (i < b.getD at_.toNat 0) with
      | false => exact GR.err 1 _ (by decide)
      | true => cases decide (last < 0) <;> exact GR.err 1 _ (by decide)
    rw [decide_eq_false hl]
    simp only [cond_false]
    by_cases hi : i < b.getD at_.toNat 0
    · rw [decide_eq_true hi]
      simp only [cond_true]
      rcases h5 with ⟨h5, h6⟩ | ⟨h5, h6, h7, h8⟩
      · subst h5 h6
        rw [decide_eq_true (show (-1 : Int) < 0 by decide), show ((0 : Int) == 0) = true from rfl]
        simp only [cond_true]
        by_cases hz : x = 0
        · rw [show (x != 0) = false by simpa using hz, decide_eq_false (show ¬ x ≤ -1 by omega), outr_no ⟨by omega, by omega⟩]
          simp only [cond_false]
          have hf : fs = [] := List.eq_nil_of_length_eq_zero (by omega)
          subst hf
          exact ih _ _ _ _ (by rw [List.length_append]; simp) (by omega) (by omega) (by omega) (.inr ⟨by omega, hz, by omega, getD_push⟩) (hI.push (.inl rfl)) (by omega)
        · rw [show (x != 0) = true by simpa using hz, outr_yes (.inr (by omega))]
          exact GR.err 3 _ (by decide)
      · rw [decide_eq_false (show ¬ last < 0 by omega), show (i == 0) = false by simp; omega]
        simp only [cond_false]
        by_cases hz : x ≤ last
        · rw [decide_eq_true hz, outr_yes (.inl (by omega))]
          exact GR.err 3 _ (by decide)
        · rw [decide_eq_false hz, outr_no ⟨by omega, by omega⟩]
          simp only [cond_false]
          exact ih _ _ _ _ (by rw [List.length_append]; simp; omega) (by omega) (by omega) (by omega) (.inr ⟨by omega, by rw [List.getD_eq_getElem?_getD, List.getElem?_append_left (by omega), ← List.getD_eq_getElem?_getD]; exact h6, by omega, getD_push⟩) (hI.push (.inr (by omega))) (by omega)
    · rw [decide_eq_false hi]
      simp only [cond_false]
      rcases h5 with ⟨h5, h6⟩ | ⟨h5, h6, h7, h8⟩
      · omega
      by_cases hz : x > 256
      · rw [decide_eq_true hz, outr_yes (.inr hz)]
        exact GR.err 3 _ (by decide)
      rw [decide_eq_false hz]
      by_cases hy : x ≤ last
      · rw [decide_eq_true hy, outr_yes (.inl (by omega))]
        exact GR.err 3 _ (by decide)
      rw [decide_eq_false hy, outr_no ⟨by omega, by omega⟩]
      refine .inr ⟨rfl, rfl, rfl, rfl, rfl, rfl, ?_, ?_, ?_, ?_, ?_, ?_, h6, hI, ?_⟩
      · show 0 ≤ pos + 2; omega
      · show pos + 2 ≤ _; omega
      · show 1 ≤ x; omega
      · show x ≤ 256; omega
      · show 0 < fs.length; omega
      · show fs.length ≤ 16; omega
      · show fs.getD (fs.length - 1) 0 < x; omega
theorem funs_rel {b : List Int} (hb : Bytes b) {at_ mem stack input : Int} {da : List Int} (a0 : 0 ≤ at_) (a1 : at_ ≤ b.length) : GR b at_ mem stack input da (rfuns_s b mem stack input da at_ 0 0) (rest_s b at_ mem stack input da) := by
  unfold rfuns_s rest_s
  by_cases h : (b.length : Int) < at_ + 1
  · rw [decide_eq_true h, show (at_ == (b.length : Int)) = true by simp; omega]
    exact GR.err 1 _ (by decide)
  rw [decide_eq_false h, show (at_ == (b.length : Int)) = false by simp; omega]
  simp only [cond_false]
  by_cases h1 : b.getD at_.toNat 0 < 1
  · rw [decide_eq_true h1, outr_yes (.inl h1)]
    exact GR.err 3 _ (by decide)
  rw [decide_eq_false h1]
  by_cases h2 : b.getD at_.toNat 0 > 16
  · rw [decide_eq_true h2, outr_yes (.inr h2)]
    exact GR.err 3 _ (by decide)
  rw [decide_eq_false h2, outr_no ⟨by omega, by omega⟩]
  exact funs_l0_rel hb ⟨by omega, by omega⟩ _ _ _ _ _ rfl (by omega) (by omega) (by omega) (.inl ⟨rfl, rfl⟩) (fun i hi => by simp at hi) (Nat.lt_succ_self _)

theorem getS_ok {l : List Int} (h : (getS l).2.1 = 0) : 12 ≤ l.length ∧ getS l = (insOf l, 0, 0) ∧ InsR (insOf l) := by
  unfold getS at h ⊢
  by_cases hl : (l.length : Int) < 12
  · rw [decide_eq_true hl] at h; exact absurd (show (1 : Int) = 0 from h) (by decide)
  rw [decide_eq_false hl] at h ⊢
  simp only [cond_false] at h ⊢
  unfold tell at h ⊢
  unfold InsR putS
  cases h1 : known_s (insOf l).op with
  | false => rw [h1] at h; exact absurd (show (4 : Int) = 0 from h) (by decide)
  | true =>
    cases h2 : (W (insOf l) == (0 : Int)) with
    | false => rw [h1, h2] at h; exact absurd (show (5 : Int) = 0 from h) (by decide)
    | true => exact ⟨by omega, rfl, rfl⟩
theorem insOf_imm {l : List Int} (hb : Bytes l) (hl : 12 ≤ l.length) : 0 ≤ (insOf l).imm ∧ (insOf l).imm < 18446744073709551616 := (be_val (tail8 l) (tail8_len hl) (tail8_byt hb)).2
def tailI (b : List Int) (m s i : Int) (da fs : List Int) (first pos : Int) (is : List Ins) : Img × Int × Int :=
  bif decide (pos < (b.length : Int)) then (zeroI, 6, pos) else (bif decide (stray_s ⟨m, s, i, da, fs, is⟩ ≥ 0) then (zeroI, 7, IntKind.i64.wrap (first + IntKind.i64.wrap (12 * stray_s ⟨m, s, i, da, fs, is⟩))) else (⟨m, s, i, da, fs, is⟩, 0, 0))
def ofRest (b : List Int) (m s i : Int) (da : List Int) (r : RestT) : Img × Int × Int :=
  bif r.1 then (zeroI, r.2.1, r.2.2.1) else tailI b m s i da r.2.2.2.2.2.1 r.2.2.2.1 r.2.2.2.2.1 r.2.2.2.2.2.2
theorem code_rel {b : List Int} (hb : Bytes b) (h0 : b.length < 2 ^ 40) {f : FunsT} (hR : rfuns_s b (front_s b).1 (front_s b).2.1 (front_s b).2.2.1 (front_s b).2.2.2.1 (front_s b).2.2.2.2.1 (front_s b).2.2.2.2.2.1 (front_s b).2.2.2.2.2.2 = f) {at_ mem stack input : Int} {da : List Int} (hk : f.2.2.2.2.2.2.2.2 ≤ 256)
    (h1 : 0 < f.2.2.2.2.1.length) (h2 : f.2.2.2.2.1.length ≤ 16) (h3 : f.2.2.2.2.1.getD 0 0 = 0) (h4 : Inc f.2.2.2.2.1) (h5 : f.2.2.2.2.1.getD (f.2.2.2.2.1.length - 1) 0 < f.2.2.2.2.2.2.2.2) : ∀ (m : Nat) (i pos : Int) (is : List Ins), (is.length : Int) = i → i ≤ f.2.2.2.2.2.2.2.2 → 0 ≤ pos → pos ≤ b.length → (∀ j, j < is.length → 0 ≤ (is.getD j default).imm ∧ (is.getD j default).imm < 18446744073709551616) → (256 - i).toNat < m →
    rdecode_l0 b m i pos is = ofRest b f.1 f.2.1 f.2.2.1 f.2.2.2.1 (rest_l1 b at_ mem stack input da m i f.2.2.2.2.2.2.2.2 f.2.2.2.2.2.1 pos f.2.2.2.2.1 is) := by
  intro m
  induction m with
  | zero => intros; rename_i hm; exact absurd hm (Nat.not_lt_zero _)
  | succ m ih =>
    intro i pos is e1 e2 p0 p1 hI hm
    rw [rdecode_l0, rest_l1, hR, rget_eq (bytes_drop hb _), get_eq (bytes_drop hb _)]
    by_cases hi : i < f.2.2.2.2.2.2.2.2
    · rw [decide_eq_true hi]
      simp only [cond_true]
      by_cases he : (getS (b.drop pos.toNat)).2.1 = 0
      · obtain ⟨q1, q2, q3⟩ := getS_ok he
        rw [show ((getS (b.drop pos.toNat)).2.1 != 0) = false by simpa using he]
        simp only [cond_false]
        have ql : (b.drop pos.toNat).length = b.length - pos.toNat := List.length_drop
        refine ih _ _ _ (by rw [List.length_append]; simp; omega) (by omega) (by omega) (by omega) (fun j hj => ?_) (by omega)
        rw [List.length_append] at hj
        simp at hj
        by_cases c : j < is.length
        · rw [List.getD_eq_getElem?_getD, List.getElem?_append_left c, ← List.getD_eq_getElem?_getD]; exact hI j c
        · have e : j = is.length := by omega
          rw [List.getD_eq_getElem?_getD, List.getElem?_append_right (by omega), e, Nat.sub_self, q2]
          exact insOf_imm (bytes_drop hb _) q1
      · rw [show ((getS (b.drop pos.toNat)).2.1 != 0) = true by simpa using he]
        rfl
    · rw [decide_eq_false hi]
      simp only [cond_false]
      unfold rdecode_c16
      rw [hR]
      have r : Rt ⟨f.1, f.2.1, f.2.2.1, f.2.2.2.1, f.2.2.2.2.1, is⟩ := ⟨⟨h1, h2⟩, h3, h4, by show f.2.2.2.2.1.getD (f.2.2.2.2.1.length - 1) 0 < (is.length : Int); omega, by show is.length ≤ 256; omega, hI⟩
      rw [stray_eq r]
      rfl
/-- The document tells what the program tells. -/
theorem dec_eq {b : List Int} (hb : Bytes b) (h0 : b.length < 2 ^ 40) : rdecode_s b = idec_s b := by
  have hF := front_rel hb
  unfold rdecode_s idec_s restB imgD
  rcases hF with ⟨f1, f2⟩ | ⟨f1, f2, f3⟩
  · rw [show ((front_s b).2.2.2.2.2.1 == 0) = false by simpa using f1, f2]
    rfl
  · rw [show ((front_s b).2.2.2.2.2.1 == 0) = true by simpa using f1]
    simp only [cond_true]
    have hi : (ifront_s b).1 = false := by rw [f3]
    have q := ifront_rng hi
    rw [f3] at q
    have hG := funs_rel hb (at_ := (front_s b).2.2.2.2.1) (mem := (front_s b).1) (stack := (front_s b).2.1) (input := (front_s b).2.2.1) (da := (front_s b).2.2.2.1) q.1 q.2.1
    obtain ⟨f, hf⟩ : ∃ f, rfuns_s b (front_s b).1 (front_s b).2.1 (front_s b).2.2.1 (front_s b).2.2.2.1 (front_s b).2.2.2.2.1 (front_s b).2.2.2.2.2.1 (front_s b).2.2.2.2.2.2 = f := ⟨_, rfl⟩
    have hf' := hf
    rw [f1, f2] at hf'
    rw [hf'] at hG
    rw [hf]
    unfold restB
    rw [f3]
    simp only [cond_false]
    rcases hG with ⟨g1, g2⟩ | ⟨g1, g2, g3, g4, g5, g6, g7, g8, g9, g10, g11, g12, g13, g14, g15⟩
    · rw [show (f.2.2.2.2.2.2.1 != 0) = true by simpa using g1, g2]
      rfl
    · rw [show (f.2.2.2.2.2.2.1 != 0) = false by simpa using g1]
      simp only [cond_false]
      have := code_rel hb h0 hf (at_ := (front_s b).2.2.2.2.1) (mem := (front_s b).1) (stack := (front_s b).2.1) (input := (front_s b).2.2.1) (da := (front_s b).2.2.2.1) g10 g11 g12 g13 g14 g15 ((256 - (0 : Int)).toNat + 1) 0 f.2.2.2.2.2.1 [] rfl (by omega) g7 g8 (fun j hj => by simp at hj) (Nat.lt_succ_self _)
      rw [this, ← g6, g2, g3, g4, g5]
      rfl
end Go.Proofs.Ythfgakbigpnkhaa.Sx.C3
