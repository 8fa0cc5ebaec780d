/- What is so of each node of a term: widths by operations. -/
import Derived.Test.YtahobmjchppciaaDoorE4
import Derived.Test.YtahobmjchppciaaDoorN2
import Derived.Test.YtahobmjchppciaaDoorSx19
import Derived.OpenShut
import Derived.WalkKit
import Derived.ProofKit
import Derived.Test.YtahobmjchppciaaDoorRows
import Derived.Lib.LaidU8
import Derived.Lib.LaidIn
import Derived.LaidHandle
import Derived.LaidSub
open Go Go.Proofs Go.RowKit
namespace Go.Proofs.YtahobmjchppciaaDoor.Sx.M5
set_option linter.unusedVariables false
set_option linter.unusedSimpArgs false
set_option linter.unusedSimpArgs false
theorem tkid_l0_f {x : Nd} {l : List Nd} : ∀ (m : Nat) (f : Nat → Int) (i : Int), 0 ≤ i → (3 - i).toNat < m → (tkid_l0 x l m f i).2 = true → ∀ j : Nat, j < 3 → (tkid_l0 x l m f i).1 j = if i ≤ (j : Int) ∧ (j : Int) < kids_s x.op then (l.getD (x.k j).toNat default).w else f j := by
  intro m
  induction m with
  | zero => intro f i _ hm; omega
  | succ m ih =>
    intro f i hi hm h j hj
    rw [tkid_l0] at h ⊢
    cases c : decide (i < (3 : Int)) with
    | false =>
      have c := of_decide_eq_false c
      rw [if_neg (by omega)]; rfl
    | true =>
      have c := of_decide_eq_true c
      rw [decide_eq_true c, cond_true] at h
      cases c1 : decide (i ≥ kids_s x.op) with
      | true =>
        rw [c1, cond_true] at h
        have c1 := of_decide_eq_true c1
        obtain ⟨a1, h⟩ := bifF h
        rw [a1, cond_true, cond_true, cond_false, ih f (i + 1) (by omega) (by omega) h j hj, if_neg (by omega), if_neg (by omega)]
      | false =>
        rw [c1, cond_false] at h
        have c1 := of_decide_eq_false c1
        obtain ⟨a1, h⟩ := bifF h
        obtain ⟨a2, h⟩ := bifF h
        rw [a1, a2, cond_true, cond_false, cond_false, cond_false, ih _ (i + 1) (by omega) (by omega) h j hj]
        by_cases e : i = (j : Int)
        · subst e
          rw [if_neg (by omega), if_pos (by omega), Int.toNat_natCast]
          unfold upd
          rw [if_pos rfl]
        · by_cases q : i ≤ (j : Int) ∧ (j : Int) < kids_s x.op
          · rw [if_pos (by omega), if_pos q]
          · rw [if_neg (by omega), if_neg q]
            unfold upd
            rw [if_neg (by omega)]
/-- Widths by operations. -/
structure NdT (x : Nd) (f : Nat → Int) : Prop where
  c0 : x.op = 0 → (x.w = 1 ∨ x.w = 8 ∨ x.w = 64)
  c1 : x.op = 1 → x.w = 8
  c2 : x.op = 2 → x.w = 64
  c3 : x.op = 3 ∨ x.op = 4 ∨ x.op = 24 → x.w = 0
  c5 : x.op = 5 → f 0 ≠ 0 ∧ x.w = f 0
  c6 : x.op = 6 → x.w = 64 ∧ (f 0 = 1 ∨ f 0 = 8)
  c7 : x.op = 7 → x.w = 8 ∧ f 0 = 64
  c8 : 8 ≤ x.op ∧ x.op ≤ 18 → f 0 ≠ 0 ∧ f 0 = f 1 ∧ x.w = f 0
  c19 : 19 ≤ x.op ∧ x.op ≤ 21 → x.w = 1 ∧ f 0 ≠ 0 ∧ f 0 = f 1
  c22 : x.op = 22 → f 0 = 1 ∧ f 1 ≠ 0 ∧ f 1 = f 2 ∧ x.w = f 1
  c23 : x.op = 23 → x.w = 8
theorem ndt_of {x : Nd} {f : Nat → Int} (ho : 0 ≤ x.op ∧ x.op ≤ 24) (h : twid_s x f = true) : NdT x f := by
  have key : ∀ {b : Bool} {y : Bool}, (bif b then y else false) = true → b = true ∧ y = true := fun {b y} h => by cases b <;> simp_all
  have bt : ∀ v : Int, x.op = v → (x.op == v) = true := fun v h => beq_iff_eq.2 h
  have bf : ∀ v : Int, x.op ≠ v → (x.op == v) = false := fun v h => beq_eq_false_iff_ne.2 h
  have lf : (x.op = 0 ∨ x.op = 1 ∨ x.op = 2 ∨ x.op = 3 ∨ x.op = 4) → leaf_s x = true := fun q => by
    unfold twid_s at h
    have k0 : kids_s x.op = 0 := by unfold kids_s; rw [decide_eq_true (by omega : x.op < 5)]; rfl
    rw [bf 5 (by omega), bf 6 (by omega), bf 7 (by omega), bf 19 (by omega), bf 20 (by omega), bf 21 (by omega), bf 22 (by omega), bf 23 (by omega), bf 24 (by omega), k0] at h
    exact h
  refine ⟨fun q => ?_, fun q => ?_, fun q => ?_, fun q => ?_, fun q => ?_, fun q => ?_, fun q => ?_, fun q => ?_, fun q => ?_, fun q => ?_, fun q => ?_⟩
  · have l := lf (by omega)
    unfold leaf_s at l
    rw [bt 0 q, cond_true] at l
    cases c1 : x.w == (1 : Int) with
    | true => exact .inl (eq_of_beq c1)
    | false =>
      rw [c1, cond_false] at l
      cases c2 : x.w == (8 : Int) with
      | true => exact .inr (.inl (eq_of_beq c2))
      | false => rw [c2, cond_false] at l; exact .inr (.inr (eq_of_beq l))
  · have l := lf (by omega)
    unfold leaf_s at l
    rw [bf 0 (by omega), bt 1 q] at l
    exact eq_of_beq l
  · have l := lf (by omega)
    unfold leaf_s at l
    rw [bf 0 (by omega), bf 1 (by omega), bt 2 q] at l
    exact eq_of_beq l
  · rcases q with q | q | q
    · have l := lf (by omega)
      unfold leaf_s at l
      rw [bf 0 (by omega), bf 1 (by omega), bf 2 (by omega)] at l
      exact eq_of_beq l
    · have l := lf (by omega)
      unfold leaf_s at l
      rw [bf 0 (by omega), bf 1 (by omega), bf 2 (by omega)] at l
      exact eq_of_beq l
    · unfold twid_s at h
      rw [bf 5 (by omega), bf 6 (by omega), bf 7 (by omega), bf 19 (by omega), bf 20 (by omega), bf 21 (by omega), bf 22 (by omega), bf 23 (by omega), bt 24 q] at h
      simp only [cond_true, cond_false] at h
      exact eq_of_beq (key h).1
  · unfold twid_s at h
    rw [bt 5 q, cond_true] at h
    exact ⟨bne_iff_ne.1 (key h).1, eq_of_beq (key h).2⟩
  · unfold twid_s at h
    rw [bf 5 (by omega), bt 6 q] at h
    simp only [cond_true, cond_false] at h
    refine ⟨eq_of_beq (key h).1, ?_⟩
    have h := (key h).2
    cases c : f 0 == (1 : Int) with
    | true => exact .inl (eq_of_beq c)
    | false => rw [c, cond_false] at h; exact .inr (eq_of_beq h)
  · unfold twid_s at h
    rw [bf 5 (by omega), bf 6 (by omega), bt 7 q] at h
    simp only [cond_true, cond_false] at h
    exact ⟨eq_of_beq (key h).1, eq_of_beq (key h).2⟩
  · unfold twid_s at h
    have k0 : kids_s x.op = 2 := by
      unfold kids_s
      rw [decide_eq_false (by omega : ¬ x.op < 5), decide_eq_false (by omega : ¬ x.op > 24), decide_eq_false (by omega : ¬ x.op ≤ 7), decide_eq_true (by omega : x.op ≤ 21)]; rfl
    rw [bf 5 (by omega), bf 6 (by omega), bf 7 (by omega), bf 19 (by omega), bf 20 (by omega), bf 21 (by omega), bf 22 (by omega), bf 23 (by omega), bf 24 (by omega), k0] at h
    have h : (bif (f 0) != (0 : Int) then (bif (f 0) == (f 1) then (x.w == (f 0)) else false) else false) = true := h
    exact ⟨bne_iff_ne.1 (key h).1, eq_of_beq (key (key h).2).1, eq_of_beq (key (key h).2).2⟩
  · have h : (bif x.w == (1 : Int) then (bif (f 0) != (0 : Int) then ((f 0) == (f 1)) else false) else false) = true := by
      unfold twid_s at h
      rw [bf 5 (by omega), bf 6 (by omega), bf 7 (by omega)] at h
      rcases (show x.op = 19 ∨ x.op = 20 ∨ x.op = 21 by omega) with q | q | q
      · rw [bt 19 q] at h; exact h
      · rw [bf 19 (by omega), bt 20 q] at h; exact h
      · rw [bf 19 (by omega), bf 20 (by omega), bt 21 q] at h; exact h
    exact ⟨eq_of_beq (key h).1, bne_iff_ne.1 (key (key h).2).1, eq_of_beq (key (key h).2).2⟩
  · unfold twid_s at h
    rw [bf 5 (by omega), bf 6 (by omega), bf 7 (by omega), bf 19 (by omega), bf 20 (by omega), bf 21 (by omega), bt 22 q] at h
    simp only [cond_true, cond_false] at h
    exact ⟨eq_of_beq (key h).1, bne_iff_ne.1 (key (key h).2).1, eq_of_beq (key (key (key h).2).2).1, eq_of_beq (key (key (key h).2).2).2⟩
  · unfold twid_s at h
    rw [bf 5 (by omega), bf 6 (by omega), bf 7 (by omega), bf 19 (by omega), bf 20 (by omega), bf 21 (by omega), bf 22 (by omega), bt 23 q] at h
    simp only [cond_true, cond_false] at h
    exact eq_of_beq (key h).1
/-- The widths of a node's kids. -/
def kw (l : List Nd) (x : Nd) (m : Nat) : Int := (l.getD (x.k m).toNat default).w
theorem kids_two {op : Int} (h1 : 8 ≤ op) (h2 : op ≤ 24) : 2 ≤ kids_s op := by
  unfold kids_s
  rw [decide_eq_false (by omega : ¬ op < 5), decide_eq_false (by omega : ¬ op > 24), decide_eq_false (by omega : ¬ op ≤ 7)]
  cases decide (op ≤ (21 : Int)) <;> cases op == (23 : Int) <;> decide
theorem NdT.cong {x : Nd} {f g : Nat → Int} (ho : 0 ≤ x.op ∧ x.op ≤ 24) (h : NdT x f) (e : ∀ j : Nat, j < 3 → (j : Int) < kids_s x.op → f j = g j) : NdT x g := by
  have k22 : x.op = 22 → kids_s x.op = 3 := fun q => by rw [q]; rfl
  have e0 : 5 ≤ x.op → f 0 = g 0 := fun q => e 0 (by decide) (by have := kids_pos q ho.2; omega)
  have e1 : 8 ≤ x.op → f 1 = g 1 := fun q => e 1 (by decide) (by have := kids_two q ho.2; omega)
  have e2 : x.op = 22 → f 2 = g 2 := fun q => e 2 (by decide) (by have := k22 q; omega)
  refine ⟨h.c0, h.c1, h.c2, h.c3, fun q => ?_, fun q => ?_, fun q => ?_, fun q => ?_, fun q => ?_, fun q => ?_, h.c23⟩
  · rw [← e0 (by omega)]; exact h.c5 q
  · rw [← e0 (by omega)]; exact h.c6 q
  · rw [← e0 (by omega)]; exact h.c7 q
  · rw [← e0 (by omega), ← e1 (by omega)]; exact h.c8 q
  · rw [← e0 (by omega), ← e1 (by omega)]; exact h.c19 q
  · rw [← e0 (by omega), ← e1 (by omega), ← e2 q]; exact h.c22 q
theorem num0 {x : Nd} (h : tnum_s x = true) (hw : x.w = 1 ∨ x.w = 8 ∨ x.w = 64) (hn : U64 x.n) : x.op = 0 → x.n < 2 ^ x.w.toNat := by
  intro h0
  obtain ⟨op, w, n, k⟩ := x
  obtain rfl : op = 0 := h0
  have hn : 0 ≤ n ∧ n < 18446744073709551616 := hn
  have hw : w = 1 ∨ w = 8 ∨ w = 64 := hw
  have h : (bif w == (64 : Int) then true else ((n.fdiv (2 ^ min ((w).toNat) 64)) == (0 : Int))) = true := h
  show n < 2 ^ w.toNat
  rcases hw with e | e | e <;> subst e
  · have h : ((n.fdiv (2 ^ 1)) == (0 : Int)) = true := h
    have h := eq_of_beq h
    rw [Int.fdiv_eq_ediv_of_nonneg _ (by decide)] at h
    show n < 2 ^ 1
    omega
  · have h : ((n.fdiv (2 ^ 8)) == (0 : Int)) = true := h
    have h := eq_of_beq h
    rw [Int.fdiv_eq_ediv_of_nonneg _ (by decide)] at h
    show n < 2 ^ 8
    omega
  · show n < 2 ^ 64
    omega
/-- All that is so of a node. -/
structure NdA (l : List Nd) (x : Nd) (j : Nat) : Prop where
  ok : NdOk x j
  t : NdT x (kw l x)
  n0 : x.op = 0 → x.n < 2 ^ x.w.toNat
theorem nda_of {l : List Nd} (hn : ∀ j, U64 (l.getD j default).n) (h : (tchk_s l).1 = 0) : ∀ j, j < l.length → NdA l (l.getD j default) j := by
  intro j hj
  have ok := (nds_of_chk h).1 j hj
  unfold tchk_s at h
  cases c : ((l.length : Int) == (0 : Int)) with
  | true => rw [c] at h; cases h
  | false =>
    rw [c, cond_false] at h
    have tr := tchk_l0_t _ _ (by omega) (by omega) (Nat.lt_succ_self _) h j (by omega) hj
    have hx := hn j
    generalize l.getD j default = x at *
    unfold trig_s at tr
    obtain ⟨a1, tr⟩ := bif0 tr (by decide)
    obtain ⟨a2, tr⟩ := bif0 tr (by decide)
    obtain ⟨a3, tr⟩ := bif0 tr (by decide)
    obtain ⟨a4, tr⟩ := bif0 tr (by decide)
    obtain ⟨a5, _⟩ := bif0 tr (by decide)
    have f := tkid_l0_f (x := x) (l := (l.take j).drop 0) _ (fun _ => 0) 0 (by omega) (Nat.lt_succ_self _) (notF a3)
    have t := ndt_of ok.op (notF a4)
    refine ⟨ok, t.cong ok.op fun m hm hk => ?_, fun h0 => ?_⟩
    · have := f m hm
      rw [if_pos ⟨by omega, hk⟩] at this
      refine this.trans ?_
      unfold kw
      have h5 : 5 ≤ x.op := by
        by_cases c : x.op < 5
        · have : kids_s x.op = 0 := by unfold kids_s; rw [decide_eq_true c]; rfl
          omega
        · omega
      have kb := ok.k h5 m hm
      rw [List.drop_zero, List.getD_eq_getElem?_getD, List.getElem?_take_of_lt (by omega), ← List.getD_eq_getElem?_getD]
    · exact num0 (notF a5) (t.c0 h0) hx h0
end Go.Proofs.YtahobmjchppciaaDoor.Sx.M5
/- What the program guesses of an operation holds what the document answers. -/
open Go Go.Proofs Go.RowKit
namespace Go.Proofs.YtahobmjchppciaaDoor.Sx.M5
set_option linter.unusedVariables false
set_option linter.unusedSimpArgs false
set_option linter.unusedSimpArgs false
theorem srig_nat (w : Int) {x0 x1 : Int} (h0 : 0 ≤ x0) {n : Nat} (hn : n < 2 ^ cw w) (h1 : x0 ≤ (n : Int)) (h2 : (n : Int) ≤ x1) : ∃ a b : Nat, srig_s w x0 x1 = ((a : Int), (b : Int)) ∧ a ≤ n ∧ n ≤ b ∧ b < 2 ^ cw w := by
  have hp := Nat.two_pow_pos (cw w)
  have whole : ∃ a b : Nat, ((0 : Int), mask_s w) = ((a : Int), (b : Int)) ∧ a ≤ n ∧ n ≤ b ∧ b < 2 ^ cw w := ⟨0, 2 ^ cw w - 1, by rw [mask_eq]; rfl, by omega, by omega, by omega⟩
  unfold srig_s whol_s
  cases decide (x0 > x1) with
  | true => exact whole
  | false =>
    cases c : decide (x1 > mask_s w) with
    | true => exact whole
    | false =>
      have c := of_decide_eq_false c
      rw [mask_eq] at c
      exact ⟨x0.toNat, x1.toNat, by rw [Int.toNat_of_nonneg h0, Int.toNat_of_nonneg (by omega)]; rfl, by omega, by omega, by omega⟩
theorem pnt_in (n : Nat) : In ((pnt_s (n : Int)).1, (pnt_s (n : Int)).2) n := ⟨Int.le_refl _, Int.le_refl _⟩
theorem sapp_in (op w : Int) {x0 x1 y0 y1 : Int} (ho : op = 5 ∨ op = 8 ∨ op = 9 ∨ op = 10 ∨ op = 11 ∨ op = 12 ∨ op = 13 ∨ op = 14 ∨ op = 15 ∨ op = 16 ∨ op = 17 ∨ op = 18 ∨ op = 19 ∨ op = 20 ∨ op = 21) (hx : 0 ≤ x0) (hy : U64 y0 ∧ U64 y1) {a b : Nat} (ha : a < 2 ^ cw w) (hb : b < 2 ^ cw w) (a0 : x0 ≤ (a : Int)) (a1 : (a : Int) ≤ x1) (hyb : op ≠ 5 → y0 ≤ (b : Int) ∧ (b : Int) ≤ y1) : In (sapp_s op w x0 x1 y0 y1) (applyN op (cw w) a b) := by
  have hW := cw_range w
  have hp64 := pow_le64 hW.2
  have e : max 1 (min w 64) = (cw w : Int) := by unfold cw; omega
  have bt : ∀ v : Int, op = v → (op == v) = true := fun v h => beq_iff_eq.2 h
  have bf : ∀ v : Int, op ≠ v → (op == v) = false := fun v h => beq_eq_false_iff_ne.2 h
  obtain ⟨X0, X1, ex, q1, q2, q3⟩ := srig_nat (cw w : Int) hx (by rw [cw_cw]; exact ha) a0 a1
  rw [cw_cw] at q3
  have yr := srig_rng (w := (cw w : Int)) hy.1 hy.2
  unfold sapp_s
  rw [decide_eq_false (by omega : ¬ op < 5), decide_eq_false (by omega : ¬ op > 21), bf 6 (by omega), bf 7 (by omega), e, ex]
  simp only [cond_false]
  by_cases h5 : op = 5
  · subst h5
    obtain ⟨Y0, hY0⟩ : ∃ Y0 : Nat, (srig_s (cw w : Int) y0 y1).1 = Y0 := ⟨(srig_s (cw w : Int) y0 y1).1.toNat, by omega⟩
    have st : stab_s 5 (cw w : Int) (X0 : Int) (X1 : Int) (srig_s (cw w : Int) y0 y1).1 (srig_s (cw w : Int) y0 y1).2 = stab_s 5 (cw w : Int) (X0 : Int) (X1 : Int) ((0 : Nat) : Int) ((b : Nat) : Int) := rfl
    have T := tab_in 5 (.inl rfl) (W := cw w) (x0 := X0) (x1 := X1) (y0 := 0) (y1 := b) (a := a) (b := b) ⟨hW.1, hW.2, q1, q2, q3, by omega, by omega, hb⟩
    rw [st, hY0, apply1_eq 5 _ _ _ (by omega) (by omega), cw_cw, Nat.mod_eq_of_lt (by omega)]
    have ap : ∀ x y : Nat, applyN 5 (cw w) x y = 2 ^ cw w - 1 - x := fun x y => by simp [applyN]
    cases c : ((X0 : Int) == (pnt_s (X0 : Int)).1 && (X1 : Int) == (pnt_s (X0 : Int)).2) with
    | true =>
      rw [Bool.and_eq_true] at c
      have c2 : (X1 : Int) = X0 := eq_of_beq c.2
      have : X0 = a := by omega
      rw [this, ap, ap]
      exact pnt_in _
    | false => exact T
  · obtain ⟨b0, b1⟩ := hyb h5
    obtain ⟨Y0, Y1, ey, r1, r2, r3⟩ := srig_nat (cw w : Int) hy.1.1 (by rw [cw_cw]; exact hb) b0 b1
    rw [cw_cw] at r3
    have T := tab_in op ho (W := cw w) (x0 := X0) (x1 := X1) (y0 := Y0) (y1 := Y1) (a := a) (b := b) ⟨hW.1, hW.2, q1, q2, q3, r1, r2, r3⟩
    rw [ey, bf 5 h5, apply1_eq op _ _ _ (by omega) (by omega), cw_cw, Nat.mod_eq_of_lt (by omega), Nat.mod_eq_of_lt (by omega)]
    simp only [cond_false]
    cases c : ((X0 : Int) == (pnt_s (X0 : Int)).1 && (X1 : Int) == (pnt_s (X0 : Int)).2) with
    | false => exact T
    | true =>
      rw [Bool.and_eq_true] at c
      have c2 : (X1 : Int) = X0 := eq_of_beq c.2
      cases d : ((Y0 : Int) == (pnt_s (Y0 : Int)).1 && (Y1 : Int) == (pnt_s (Y0 : Int)).2) with
      | false => exact T
      | true =>
        rw [Bool.and_eq_true] at d
        have d2 : (Y1 : Int) = Y0 := eq_of_beq d.2
        have e1 : X0 = a := by omega
        have e2 : Y0 = b := by omega
        rw [e1, e2]
        exact pnt_in _
/-- A guess, tightened or not, holds a number. -/
structure Lo (g : Gu) (n : Nat) : Prop where
  z : U64 g.z
  e : U64 g.e
  lo : g.lo ≤ (n : Int)
  hi : (n : Int) ≤ g.hi
  fit : H.Fits (g.z.toNat, g.e.toNat) n
/-- As it is tightened at a width. -/
structure LoW (W : Nat) (g : Gu) (n : Nat) : Prop where
  z : U64 g.z
  e : U64 g.e
  lo : g.lo ≤ (n : Int)
  hi : (n : Int) ≤ g.hi
  fit : H.Fits (H.rightK W (g.z.toNat, g.e.toNat)) n
theorem Lo.toW {g : Gu} {n : Nat} (h : Lo g n) (W : Nat) : LoW W g n := ⟨h.z, h.e, h.lo, h.hi, T.fits_cut h.fit⟩
/-- What is so of a node's guess and value. -/
structure NI (w : Int) (g : Gu) (v : Int) : Prop where
  u : U64 v
  r : GuR g
  i : w ≠ 0 → (w = 1 ∨ w = 8 ∨ w = 64) ∧ v < 2 ^ w.toNat ∧ g.lo ≤ v ∧ v ≤ g.hi ∧ g.z < 2 ^ w.toNat ∧ g.e < 2 ^ w.toNat ∧ H.Fits (g.z.toNat, g.e.toNat) v.toNat
theorem cw_w {w : Int} (h : w = 1 ∨ w = 8 ∨ w = 64) : cw w = w.toNat := by unfold cw; omega
theorem NI.of_tight {w : Int} (hw : w = 1 ∨ w = 8 ∨ w = 64) {g : Gu} {v : Int} {n : Nat} (hv : v = n) (hn : n < 2 ^ w.toNat) (h : LoW (cw w) g n) : NI w (gtig_s w g) v := by
  have e := cw_w hw
  have hW := cw_range w
  have hp64 := pow_le64 hW.2
  have t := T.tight_in w g h.z h.e (by rw [e]; exact hn) h.lo h.hi h.fit
  obtain ⟨Z, E, e1, e2, l1, l2, f, _⟩ := t.bits
  rw [e] at l1 l2
  refine ⟨⟨by omega, by rw [e] at hp64; omega⟩, gtig_rng _ _, fun _ => ⟨hw, by rw [hv, pow_cast]; omega, by rw [hv]; exact t.lo, by rw [hv]; exact t.hi, by rw [e1, pow_cast]; omega, by rw [e2, pow_cast]; omega, ?_⟩⟩
  rw [e1, e2, hv]
  exact f
theorem kapp_in (op w : Int) {x y : Gu} (ho : H.isOpK op) (hx : GuR x) (hy : GuR y) {a b : Nat} (ha : a < 2 ^ cw w) (hb : b < 2 ^ cw w) (fa : H.Fits (x.z.toNat, x.e.toNat) a) (fb : H.Fits (H.rightK (cw w) (y.z.toNat, y.e.toNat)) b) : ∃ Z E : Nat, kapp_s op w x.z x.e y.z y.e = ((Z : Int), (E : Int)) ∧ Z < 2 ^ 64 ∧ E < 2 ^ 64 ∧ H.Fits (Z, E) (applyN op (cw w) a b) := by
  have hW := cw_range w
  obtain ⟨x1, x2, x3, x4⟩ := hx
  obtain ⟨y1, y2, y3, y4⟩ := hy
  have k := H.kapply_eq op w (x.z.toNat, x.e.toNat) (y.z.toNat, y.e.toNat) (by show x.z.toNat < _; omega) (by show x.e.toNat < _; omega) (by show y.z.toNat < _; omega) (by show y.e.toNat < _; omega)
  simp only [Int.toNat_of_nonneg x3.1, Int.toNat_of_nonneg x4.1, Int.toNat_of_nonneg y3.1, Int.toNat_of_nonneg y4.1] at k
  have f := H.kapply_fits ho hW.1 hW.2 (x.z.toNat, x.e.toNat) (y.z.toNat, y.e.toNat) ha hb (T.fits_cut fa) fb
  generalize H.kapplyK op (cw w) (x.z.toNat, x.e.toNat) (y.z.toNat, y.e.toNat) = r at *
  obtain ⟨Z, E⟩ := r
  have l := H.ok_lt64 (H.ans_range op hW.1 hW.2).2 f.1
  exact ⟨Z, E, k, l.1, l.2, f.2⟩
end Go.Proofs.YtahobmjchppciaaDoor.Sx.M5
/- Each node's guess holds its value. -/
open Go Go.Proofs Go.RowKit
namespace Go.Proofs.YtahobmjchppciaaDoor.Sx.M5
set_option linter.unusedVariables false
set_option linter.unusedSimpArgs false
set_option linter.unusedSimpArgs false
/-- An environment as it is handed over. -/
structure EvOk (e : Ev) : Prop where
  regs : ∀ j, U64 (e.regs j)
  inp : ∀ j, 0 ≤ e.inp.getD j 0 ∧ e.inp.getD j 0 ≤ 255
  mem : ∀ j, 0 ≤ e.mem.getD j 0 ∧ e.mem.getD j 0 ≤ 255
theorem bifB {b : Bool} {x y : Int} (hx : 0 ≤ x ∧ x ≤ 255) (hy : 0 ≤ y ∧ y ≤ 255) : 0 ≤ (bif b then x else y) ∧ (bif b then x else y) ≤ 255 := by cases b <;> assumption
theorem at07_rng {b : List Int} (h : ∀ j, 0 ≤ b.getD j 0 ∧ b.getD j 0 ≤ 255) (k : Int) : 0 ≤ at07_s b k ∧ at07_s b k ≤ 255 := by
  unfold at07_s
  exact bifB (h _) ⟨by decide, by decide⟩
theorem get_l0_rng {l : List Nd} {v : List Int} {e : Ev} {r a : Int} (he : EvOk e) : ∀ (m : Nat) (arr : Int), 0 ≤ get_l0 l v e r a m arr ∧ get_l0 l v e r a m arr ≤ 255 := by
  intro m
  induction m with
  | zero => intro arr; exact ⟨by show (0 : Int) ≤ 0; omega, by show (0 : Int) ≤ 255; omega⟩
  | succ m ih =>
    intro arr
    rw [get_l0]
    refine bifB (bifB ?_ (ih _)) (bifB (at07_rng he.mem _) ⟨by decide, by decide⟩)
    have e8 : ∀ z : Int, IntKind.u8.wrap z = z % 256 := fun z => by simp [IntKind.wrap, IntKind.bits, IntKind.signed]
    rw [e8]
    omega
/-- A leaf's value, or one that is got. -/
theorem byte_u64 {z : Int} (h : 0 ≤ z ∧ z ≤ 255) : IntKind.u64.wrap z = z := u64_small h.1 (by omega)
/-- What is so of the nodes ahead. -/
structure Inv (l : List Nd) (out : List Gu) (v : List Int) : Prop where
  len : out.length = v.length
  i : ∀ j, j < v.length → NI (l.getD j default).w (out.getD j default) (v.getD j 0)
theorem Inv.r {l : List Nd} {out : List Gu} {v : List Int} (h : Inv l out v) (j : Nat) : GuR (out.getD j default) := by
  by_cases c : j < v.length
  · exact (h.i j c).r
  · rw [List.getD_eq_getElem?_getD, List.getElem?_eq_none (by have := h.len; omega)]
    exact gu_zero
theorem Inv.u {l : List Nd} {out : List Gu} {v : List Int} (h : Inv l out v) (j : Nat) : U64 (v.getD j 0) := by
  by_cases c : j < v.length
  · exact (h.i j c).u
  · rw [List.getD_eq_getElem?_getD, List.getElem?_eq_none (by omega)]
    exact z_U
theorem pow_1 : (2 : Nat) ^ (1 : Int).toNat = 2 := rfl
theorem pow_8 : (2 : Nat) ^ (8 : Int).toNat = 256 := rfl
theorem pow_64 : (2 : Nat) ^ (64 : Int).toNat = 18446744073709551616 := rfl
theorem fits_z (n : Nat) : H.Fits ((0 : Int).toNat, (0 : Int).toNat) n := H.fits_zero n
theorem lo_whole {w : Int} {n : Nat} (hn : n < 2 ^ cw w) : Lo (gwho_s w) n := by
  have m := mask_rng w
  refine ⟨z_U, z_U, Int.natCast_nonneg _, ?_, fits_z n⟩
  show (n : Int) ≤ mask_s w
  rw [mask_eq]
  omega
theorem isOpK_of {op : Int} (h : op = 5 ∨ (8 ≤ op ∧ op ≤ 21)) : H.isOpK op := by unfold H.isOpK; omega
theorem fifteen {op : Int} (h : op = 5 ∨ (8 ≤ op ∧ op ≤ 21)) : op = 5 ∨ op = 8 ∨ op = 9 ∨ op = 10 ∨ op = 11 ∨ op = 12 ∨ op = 13 ∨ op = 14 ∨ op = 15 ∨ op = 16 ∨ op = 17 ∨ op = 18 ∨ op = 19 ∨ op = 20 ∨ op = 21 := by omega
/-- The next node's guess, not tightened. -/
def gloose (l : List Nd) (out : List Gu) (x : Nd) : Gu := bif decide (x.op = 5 ∨ (8 ≤ x.op ∧ x.op ≤ 21)) then mapp_s l out x else bif decide (x.op = 1 ∨ x.op = 2 ∨ x.op = 23) then mope_s l out x else bif decide (x.op = 0) then mcon_s l out x else bif decide (x.op = 6) then mwid_s l out x else bif decide (x.op = 7) then mlow_s l out x else mcho_s l out x
/-- Guess and value of the next node, where it is no array: by what both come to. -/
def Good1 (l : List Nd) (out : List Gu) (v : List Int) (e : Ev) (x : Nd) : Prop := ∃ n : Nat, gstep l out x = gtig_s x.w (gloose l out x) ∧ one_s l v e x = n ∧ LoW (cw x.w) (gloose l out x) n ∧ n < 2 ^ x.w.toNat ∧ (x.w = 1 ∨ x.w = 8 ∨ x.w = 64)
theorem NI.nat {w : Int} {g : Gu} {v : Int} (h : NI w g v) (hw : w ≠ 0) : ∃ n : Nat, v = n ∧ n < 2 ^ cw w ∧ Lo g n ∧ (w = 1 ∨ w = 8 ∨ w = 64) := by
  obtain ⟨q1, q2, q3, q4, q5, q6, q7⟩ := h.i hw
  have u := h.u
  refine ⟨v.toNat, by omega, ?_, ⟨h.r.2.2.1, h.r.2.2.2, by omega, by omega, q7⟩, q1⟩
  rw [cw_w q1]
  rw [pow_cast] at q2
  omega
theorem apply_good {l : List Nd} {out : List Gu} {v : List Int} {x : Nd} {i : Nat} (I : Inv l out v) (hi : v.length = i) (A : NdA l x i) (c : x.op = 5 ∨ (8 ≤ x.op ∧ x.op ≤ 21)) : ∃ n : Nat, rapp_s x.op (kw l x 0) (v.getD (x.k 0).toNat 0) (v.getD (x.k 1).toNat 0) = n ∧ Lo (mapp_s l out x) n ∧ n < 2 ^ x.w.toNat ∧ (x.w = 1 ∨ x.w = 8 ∨ x.w = 64) := by
  have ho := A.ok.op
  have k0 := A.ok.k (by omega) 0 (by decide)
  have k1 := A.ok.k (by omega) 1 (by decide)
  have N0 := I.i (x.k 0).toNat (by omega)
  have N1 := I.i (x.k 1).toNat (by omega)
  have hw0 : kw l x 0 ≠ 0 := by
    rcases (show x.op = 5 ∨ (8 ≤ x.op ∧ x.op ≤ 18) ∨ (19 ≤ x.op ∧ x.op ≤ 21) by omega) with q | q | q
    · exact (A.t.c5 q).1
    · exact (A.t.c8 q).1
    · exact (A.t.c19 q).2.1
  obtain ⟨a, ea, la, La, wa⟩ := NI.nat N0 hw0
  have hW := cw_range (kw l x 0)
  have hp := pow_le64 hW.2
  have hpp := Nat.two_pow_pos (cw (kw l x 0))
  have la : a < 2 ^ cw (kw l x 0) := la
  have wa : kw l x 0 = 1 ∨ kw l x 0 = 8 ∨ kw l x 0 = 64 := wa
  obtain ⟨B, eB⟩ : ∃ B : Nat, v.getD (x.k 1).toNat 0 = B := ⟨(v.getD (x.k 1).toNat 0).toNat, by have := N1.u; omega⟩
  have uB := N1.u
  have ra := rapp_eq x.op (kw l x 0) a B (by omega) (by omega)
  rw [Nat.mod_eq_of_lt la] at ra
  have hb : B % 2 ^ cw (kw l x 0) < 2 ^ cw (kw l x 0) := Nat.mod_lt _ hpp
  have y1 : x.op ≠ 5 → kw l x 0 = kw l x 1 := fun h => by
    rcases (show (8 ≤ x.op ∧ x.op ≤ 18) ∨ (19 ≤ x.op ∧ x.op ≤ 21) by omega) with q | q
    · exact (A.t.c8 q).2.1
    · exact (A.t.c19 q).2.2
  have yb : x.op ≠ 5 → B < 2 ^ cw (kw l x 0) ∧ Lo (out.getD (x.k 1).toNat default) B := fun h => by
    obtain ⟨b, eb, lb, Lb, wb⟩ := NI.nat N1 (show kw l x 1 ≠ 0 by rw [← y1 h]; exact hw0)
    obtain rfl : B = b := by omega
    rw [y1 h]
    exact ⟨lb, Lb⟩
  have s := sapp_in x.op (kw l x 0) (x0 := (out.getD (x.k 0).toNat default).lo) (x1 := (out.getD (x.k 0).toNat default).hi) (y0 := (out.getD (x.k 1).toNat default).lo) (y1 := (out.getD (x.k 1).toNat default).hi) (fifteen c) N0.r.1.1 ⟨N1.r.1, N1.r.2.1⟩ la hb La.lo La.hi (fun h => by
    obtain ⟨p1, p2⟩ := yb h
    rw [Nat.mod_eq_of_lt p1]
    exact ⟨p2.lo, p2.hi⟩)
  have K : ∃ Z E : Nat, kapp_s x.op (kw l x 0) (out.getD (x.k 0).toNat default).z (out.getD (x.k 0).toNat default).e (out.getD (x.k 1).toNat default).z (out.getD (x.k 1).toNat default).e = ((Z : Int), (E : Int)) ∧ Z < 2 ^ 64 ∧ E < 2 ^ 64 ∧ H.Fits (Z, E) (applyN x.op (cw (kw l x 0)) a (B % 2 ^ cw (kw l x 0))) := by
    by_cases h : x.op = 5
    · have ok := H.right_okK (cw (kw l x 0)) ((out.getD (x.k 1).toNat default).z.toNat, (out.getD (x.k 1).toNat default).e.toNat)
      obtain ⟨Z, E, k, lz, le, f⟩ := kapp_in x.op (kw l x 0) (isOpK_of c) N0.r N1.r la ok.2.1 La.fit (H.self_fits ok)
      refine ⟨Z, E, k, lz, le, ?_⟩
      have ap : ∀ y : Nat, applyN x.op (cw (kw l x 0)) a y = 2 ^ cw (kw l x 0) - 1 - a := fun y => by rw [h]; simp [applyN]
      rw [ap] at f ⊢
      exact f
    · obtain ⟨p1, p2⟩ := yb h
      exact kapp_in x.op (kw l x 0) (isOpK_of c) N0.r N1.r la hb La.fit (H.fits_right (T.fits_cut p2.fit))
  obtain ⟨Z, E, k, lz, le, f⟩ := K
  have alt := apply_lt x.op hW.1 la hb
  have ans : applyN x.op (cw (kw l x 0)) a (B % 2 ^ cw (kw l x 0)) < 2 ^ x.w.toNat ∧ (x.w = 1 ∨ x.w = 8 ∨ x.w = 64) := by
    rcases (show x.op = 5 ∨ (8 ≤ x.op ∧ x.op ≤ 18) ∨ (19 ≤ x.op ∧ x.op ≤ 21) by omega) with q | q | q
    · have e := (A.t.c5 q).2
      rw [e, ← cw_w wa]; exact ⟨alt, wa⟩
    · have e := (A.t.c8 q).2.2
      rw [e, ← cw_w wa]; exact ⟨alt, wa⟩
    · have e := (A.t.c19 q).1
      have := H.apply_ans x.op hW.1 la hb
      unfold H.ansK at this
      rw [if_pos (by omega)] at this
      rw [e]
      exact ⟨this, .inl rfl⟩
  refine ⟨applyN x.op (cw (kw l x 0)) a (B % 2 ^ cw (kw l x 0)), by rw [ea, eB]; exact ra, ?_, ans.1, ans.2⟩
  have k' : kapp_s x.op (kid0_s l out x).2 (kid0_s l out x).1.z (kid0_s l out x).1.e (kid1_s l out x).1.z (kid1_s l out x).1.e = ((Z : Int), (E : Int)) := k
  unfold mapp_s
  rw [k']
  refine ⟨⟨Int.natCast_nonneg _, ?_⟩, ⟨Int.natCast_nonneg _, ?_⟩, s.1, s.2, f⟩
  · show (Z : Int) < _; omega
  · show (E : Int) < _; omega
theorem fits_sub {z e : Nat} {n : Nat} (h : H.Fits (z, e) n) : ∀ i, (z.testBit i = true → n.testBit i = false) ∧ (e.testBit i = true → n.testBit i = true) := h
theorem wide_or {z w : Int} (hz : U64 z) (hw : w = 1 ∨ w = 8 ∨ w = 64) : ∃ Z : Nat, Go.bits .or .u64 z (Go.bits .xor .u64 IntKind.u64.max (mask_s w)) = (Z : Int) ∧ Z < 2 ^ 64 ∧ ∀ i, Z.testBit i = true → z.toNat.testBit i = true ∨ w.toNat ≤ i := by
  have hW := cw_range w
  have hp := Nat.two_pow_pos (cw w)
  have hp64 := pow_le64 hW.2
  obtain ⟨Z, rfl⟩ : ∃ Z : Nat, z = Z := ⟨z.toNat, by omega⟩
  rw [mask_eq w]
  have mx : IntKind.u64.max = ((2 ^ 64 - 1 : Nat) : Int) := rfl
  rw [mx, xor_nat _ _ (by omega) (by omega), not_nat _ _ (by omega : 2 ^ cw w - 1 < 2 ^ 64), or_nat _ _ (by omega) (by omega)]
  refine ⟨_, rfl, Nat.or_lt_two_pow (by omega) (by omega), fun i hi => ?_⟩
  rw [Nat.testBit_or, Bool.or_eq_true] at hi
  rcases hi with h | h
  · exact .inl h
  · right
    by_cases c : i < 64
    · rw [T.compl_bit (by omega) c, Nat.testBit_two_pow_sub_one] at h
      rw [cw_w hw] at h
      by_cases d : i < w.toNat
      · rw [decide_eq_true d] at h; cases h
      · omega
    · have : w.toNat ≤ 64 := by omega
      omega
theorem good1 {l : List Nd} {out : List Gu} {v : List Int} {e : Ev} {x : Nd} {i : Nat} (I : Inv l out v) (hi : v.length = i) (A : NdA l x i) (hn : U64 x.n) (he : EvOk e) (na : ¬ (x.op = 3 ∨ x.op = 4 ∨ x.op = 24)) : Good1 l out v e x := by
  have ho := A.ok.op
  have bt : ∀ v : Int, x.op = v → (x.op == v) = true := fun v h => beq_iff_eq.2 h
  have bf : ∀ v : Int, x.op ≠ v → (x.op == v) = false := fun v h => beq_eq_false_iff_ne.2 h
  unfold Good1 gstep gloose one_s
  have cs : (x.op = 5 ∨ (8 ≤ x.op ∧ x.op ≤ 21)) ∨ (x.op = 1 ∨ x.op = 2 ∨ x.op = 23) ∨ x.op = 0 ∨ x.op = 6 ∨ x.op = 7 ∨ x.op = 22 := by omega
  rcases cs with c | c | c | c | c | c
  · obtain ⟨n, e1, L, ln, hw⟩ := apply_good I hi A c
    rw [decide_eq_true c, bf 0 (by omega), bf 1 (by omega), bf 2 (by omega), bf 3 (by omega), bf 4 (by omega), bf 24 (by omega), bf 6 (by omega), bf 7 (by omega), bf 22 (by omega), bf 23 (by omega)]
    exact ⟨n, rfl, e1, L.toW _, ln, hw⟩
  · rw [decide_eq_false (by omega : ¬ (x.op = 5 ∨ (8 ≤ x.op ∧ x.op ≤ 21))), decide_eq_true c]
    rcases c with c | c | c
    · have r := at07_rng he.inp x.n
      have hw := A.t.c1 c
      rw [bf 0 (by omega), bt 1 c, byte_u64 r]
      refine ⟨(at07_s e.inp x.n).toNat, rfl, by show at07_s e.inp x.n = _; omega, (lo_whole ?_).toW _, ?_, by omega⟩
      · rw [cw_w (by omega), hw, pow_8]; omega
      · rw [hw, pow_8]; omega
    · have r := he.regs x.n.toNat
      have hw := A.t.c2 c
      rw [bf 0 (by omega), bf 1 (by omega), bt 2 c]
      refine ⟨(e.regs x.n.toNat).toNat, rfl, by show e.regs x.n.toNat = _; omega, (lo_whole ?_).toW _, ?_, by omega⟩
      · rw [cw_w (by omega), hw, pow_64]; omega
      · rw [hw, pow_64]; omega
    · have r : 0 ≤ get_s l v e (x.k 0) (v.getD (x.k 1).toNat 0) ∧ get_s l v e (x.k 0) (v.getD (x.k 1).toNat 0) ≤ 255 := get_l0_rng he _ _
      have hw := A.t.c23 c
      rw [bf 0 (by omega), bf 1 (by omega), bf 2 (by omega), bf 3 (by omega), bf 4 (by omega), bf 24 (by omega), bf 6 (by omega), bf 7 (by omega), bf 22 (by omega), bt 23 c, byte_u64 r]
      refine ⟨(get_s l v e (x.k 0) (v.getD (x.k 1).toNat 0)).toNat, rfl, by show get_s l v e (x.k 0) (v.getD (x.k 1).toNat 0) = _; omega, (lo_whole ?_).toW _, ?_, by omega⟩
      · rw [cw_w (by omega), hw, pow_8]; omega
      · rw [hw, pow_8]; omega
  · have hw := A.t.c0 c
    have n0 := A.n0 c
    rw [pow_cast] at n0
    rw [decide_eq_false (by omega : ¬ (x.op = 5 ∨ (8 ≤ x.op ∧ x.op ≤ 21))), decide_eq_false (by omega : ¬ (x.op = 1 ∨ x.op = 2 ∨ x.op = 23)), decide_eq_false (by omega : ¬ (x.op = 3 ∨ x.op = 4 ∨ x.op = 24)), decide_eq_true c, bt 0 c]
    have ln : x.n.toNat < 2 ^ x.w.toNat := by omega
    have ke := H.kof_eq x.w x.n.toNat (by omega)
    rw [Int.toNat_of_nonneg hn.1] at ke
    have f := (H.of_fits (W := cw x.w) (x := x.n.toNat) (y := x.n.toNat) (by rw [cw_w hw]; exact ln) (by rw [cw_w hw]; exact ln)).2 rfl
    have ok := H.ok_lt64 (cw_range x.w).2 (H.of_okK (cw x.w) x.n.toNat)
    generalize H.ofK (cw x.w) x.n.toNat = r at *
    refine ⟨x.n.toNat, rfl, by show x.n = _; omega, Lo.toW ?_ _, ln, hw⟩
    show Lo (mcon_s l out x) _
    unfold mcon_s
    rw [ke]
    exact ⟨⟨Int.natCast_nonneg _, by show ((r.1 : Nat) : Int) < _; omega⟩, ⟨Int.natCast_nonneg _, by show ((r.2 : Nat) : Int) < _; omega⟩, by show x.n ≤ _; omega, by show _ ≤ x.n; omega, f⟩
  · have k0 := A.ok.k (by omega) 0 (by decide)
    have hw := A.t.c6 c
    have N0 := I.i (x.k 0).toNat (by omega)
    obtain ⟨a, ea, la, La, wa⟩ := NI.nat N0 (show kw l x 0 ≠ 0 by omega)
    have wa : kw l x 0 = 1 ∨ kw l x 0 = 8 ∨ kw l x 0 = 64 := wa
    have la : a < 2 ^ cw (kw l x 0) := la
    rw [decide_eq_false (by omega : ¬ (x.op = 5 ∨ (8 ≤ x.op ∧ x.op ≤ 21))), decide_eq_false (by omega : ¬ (x.op = 1 ∨ x.op = 2 ∨ x.op = 23)), decide_eq_false (by omega : ¬ (x.op = 3 ∨ x.op = 4 ∨ x.op = 24)), decide_eq_false (by omega : ¬ x.op = 0), decide_eq_true c, bf 0 (by omega), bf 1 (by omega), bf 2 (by omega), bf 3 (by omega), bf 4 (by omega), bf 24 (by omega), bt 6 c]
    have hp64 := pow_le64 (cw_range (kw l x 0)).2
    refine ⟨a, rfl, ea, Lo.toW ?_ _, by rw [hw.1, pow_64]; omega, by omega⟩
    obtain ⟨Z, ez, lz, bz⟩ := wide_or N0.r.2.2.1 wa
    have ez' : Go.bits .or .u64 ((kid0_s l out x).1.z) (Go.bits .xor .u64 IntKind.u64.max (mask_s ((kid0_s l out x).2))) = (Z : Int) := ez
    show Lo (mwid_s l out x) _
    unfold mwid_s
    rw [ez']
    refine ⟨⟨Int.natCast_nonneg _, by show (Z : Int) < _; omega⟩, La.e, La.lo, La.hi, fun i => ⟨fun h => ?_, fun h => (La.fit i).2 h⟩⟩
    have h : Z.testBit i = true := h
    rcases bz i h with q | q
    · exact (La.fit i).1 q
    · rw [cw_w wa] at la; exact T.bit_hi la q
  · have k0 := A.ok.k (by omega) 0 (by decide)
    have hw := A.t.c7 c
    have N0 := I.i (x.k 0).toNat (by omega)
    obtain ⟨a, ea, la, La, wa⟩ := NI.nat N0 (show kw l x 0 ≠ 0 by omega)
    rw [decide_eq_false (by omega : ¬ (x.op = 5 ∨ (8 ≤ x.op ∧ x.op ≤ 21))), decide_eq_false (by omega : ¬ (x.op = 1 ∨ x.op = 2 ∨ x.op = 23)), decide_eq_false (by omega : ¬ (x.op = 3 ∨ x.op = 4 ∨ x.op = 24)), decide_eq_false (by omega : ¬ x.op = 0), decide_eq_false (by omega : ¬ x.op = 6), decide_eq_true c, bf 0 (by omega), bf 1 (by omega), bf 2 (by omega), bf 3 (by omega), bf 4 (by omega), bf 24 (by omega), bf 6 (by omega), bt 7 c, ea]
    have e256 : (a : Int).tmod 256 = ((a % 256 : Nat) : Int) := rfl
    have e8 : cw x.w = 8 := by rw [hw.1]; decide
    refine ⟨a % 256, rfl, e256, ?_, by rw [hw.1, pow_8]; omega, by omega⟩
    have ff := H.fits_right (W := 8) (T.fits_cut (W := 8) La.fit)
    rw [e8]
    show LoW 8 (mlow_s l out x) _
    unfold mlow_s kid0_s
    generalize out.getD (x.k 0).toNat default = g at *
    simp only []
    cases c2 : decide (g.hi > (255 : Int)) with
    | true => exact ⟨La.z, La.e, Int.natCast_nonneg _, by show ((a % 256 : Nat) : Int) ≤ 255; omega, ff⟩
    | false =>
      have c2 := of_decide_eq_false c2
      have := La.hi
      have := La.lo
      exact ⟨La.z, La.e, by show g.lo ≤ ((a % 256 : Nat) : Int); omega, by show ((a % 256 : Nat) : Int) ≤ g.hi; omega, ff⟩
  · have k0 := A.ok.k (by omega) 0 (by decide)
    have k1 := A.ok.k (by omega) 1 (by decide)
    have k2 := A.ok.k (by omega) 2 (by decide)
    obtain ⟨t0, t1, t2, t3⟩ := A.t.c22 c
    have N0 := I.i (x.k 0).toNat (by omega)
    have N1 := I.i (x.k 1).toNat (by omega)
    have N2 := I.i (x.k 2).toNat (by omega)
    obtain ⟨a, ea, la, La, wa⟩ := NI.nat N0 (show kw l x 0 ≠ 0 by omega)
    obtain ⟨b, eb, lb, Lb, wb⟩ := NI.nat N1 (show kw l x 1 ≠ 0 by omega)
    obtain ⟨d, ed, ld, Ld, wd⟩ := NI.nat N2 (show kw l x 2 ≠ 0 by omega)
    have la : a < 2 ^ cw (kw l x 0) := la
    have lb : b < 2 ^ cw (kw l x 1) := lb
    have ld : d < 2 ^ cw (kw l x 2) := ld
    have wb : kw l x 1 = 1 ∨ kw l x 1 = 8 ∨ kw l x 1 = 64 := wb
    rw [t0] at la
    have la : a < 2 := la
    rw [← t3] at lb wb
    rw [← t2, ← t3] at ld
    rw [decide_eq_false (by omega : ¬ (x.op = 5 ∨ (8 ≤ x.op ∧ x.op ≤ 21))), decide_eq_false (by omega : ¬ (x.op = 1 ∨ x.op = 2 ∨ x.op = 23)), decide_eq_false (by omega : ¬ (x.op = 3 ∨ x.op = 4 ∨ x.op = 24)), decide_eq_false (by omega : ¬ x.op = 0), decide_eq_false (by omega : ¬ x.op = 6), decide_eq_false (by omega : ¬ x.op = 7), bf 0 (by omega), bf 1 (by omega), bf 2 (by omega), bf 3 (by omega), bf 4 (by omega), bf 24 (by omega), bf 6 (by omega), bf 7 (by omega), bt 22 c, ea, eb, ed]
    have lb' : b < 2 ^ x.w.toNat := by rw [← cw_w wb]; exact lb
    have ld' : d < 2 ^ x.w.toNat := by rw [← cw_w wb]; exact ld
    have L0 := La.lo
    have L1 := La.hi
    have jo : Lo (mjoi_s x (out.getD (x.k 1).toNat default) (out.getD (x.k 2).toNat default)) b ∧ Lo (mjoi_s x (out.getD (x.k 1).toNat default) (out.getD (x.k 2).toNat default)) d := by
      obtain ⟨p1, p2, e1, q1, q2, q3⟩ := srig_nat x.w N1.r.1.1 lb Lb.lo Lb.hi
      obtain ⟨r1, r2, e2, s1, s2, s3⟩ := srig_nat x.w N2.r.1.1 ld Ld.lo Ld.hi
      have je := H.join_eq x.w ((out.getD (x.k 1).toNat default).z.toNat, (out.getD (x.k 1).toNat default).e.toNat) ((out.getD (x.k 2).toNat default).z.toNat, (out.getD (x.k 2).toNat default).e.toNat) (by have := N1.r.2.2.1; show (out.getD (x.k 1).toNat default).z.toNat < _; omega) (by have := N1.r.2.2.2; show (out.getD (x.k 1).toNat default).e.toNat < _; omega) (by have := N2.r.2.2.1; show (out.getD (x.k 2).toNat default).z.toNat < _; omega) (by have := N2.r.2.2.2; show (out.getD (x.k 2).toNat default).e.toNat < _; omega)
      simp only [Int.toNat_of_nonneg N1.r.2.2.1.1, Int.toNat_of_nonneg N1.r.2.2.2.1, Int.toNat_of_nonneg N2.r.2.2.1.1, Int.toNat_of_nonneg N2.r.2.2.2.1] at je
      have js := H.join_sub (cw x.w) ((out.getD (x.k 1).toNat default).z.toNat, (out.getD (x.k 1).toNat default).e.toNat) ((out.getD (x.k 2).toNat default).z.toNat, (out.getD (x.k 2).toNat default).e.toNat)
      have jk := H.ok_lt64 (cw_range x.w).2 (H.join_okK (cw x.w) ((out.getD (x.k 1).toNat default).z.toNat, (out.getD (x.k 1).toNat default).e.toNat) ((out.getD (x.k 2).toNat default).z.toNat, (out.getD (x.k 2).toNat default).e.toNat))
      have f1 := H.fits_sub js.1 (T.fits_cut Lb.fit)
      have f2 := H.fits_sub js.2 (T.fits_cut Ld.fit)
      generalize H.joinK (cw x.w) _ _ = J at *
      unfold mjoi_s sjoi_s
      rw [je, e1, e2]
      have z1 : U64 ((J.1 : Nat) : Int) := ⟨Int.natCast_nonneg _, by omega⟩
      have z2 : U64 ((J.2 : Nat) : Int) := ⟨Int.natCast_nonneg _, by omega⟩
      exact ⟨⟨z1, z2, by show min (p1 : Int) (r1 : Int) ≤ _; omega, by show _ ≤ max (p2 : Int) (r2 : Int); omega, f1⟩, ⟨z1, z2, by show min (p1 : Int) (r1 : Int) ≤ _; omega, by show _ ≤ max (p2 : Int) (r2 : Int); omega, f2⟩⟩
    have hw : x.w = 1 ∨ x.w = 8 ∨ x.w = 64 := wb
    by_cases v1 : a = 1
    · rw [show ((a : Int) == (1 : Int)) = true by rw [v1]; rfl]
      refine ⟨b, rfl, rfl, Lo.toW ?_ _, lb', hw⟩
      show Lo (mcho_s l out x) _
      unfold mcho_s
      cases c1 : ((kid0_s l out x).1.lo == (1 : Int)) with
      | true => exact Lb
      | false =>
        cases c2 : ((kid0_s l out x).1.hi == (0 : Int)) with
        | true =>
          have c2 : (out.getD (x.k 0).toNat default).hi = 0 := eq_of_beq c2
          omega
        | false => exact jo.1
    · rw [show ((a : Int) == (1 : Int)) = false from beq_eq_false_iff_ne.2 (by omega)]
      refine ⟨d, rfl, rfl, Lo.toW ?_ _, ld', hw⟩
      show Lo (mcho_s l out x) _
      unfold mcho_s
      cases c1 : ((kid0_s l out x).1.lo == (1 : Int)) with
      | true =>
        have c1 : (out.getD (x.k 0).toNat default).lo = 1 := eq_of_beq c1
        omega
      | false =>
        cases c2 : ((kid0_s l out x).1.hi == (0 : Int)) with
        | true => exact Ld
        | false => exact jo.2
end Go.Proofs.YtahobmjchppciaaDoor.Sx.M5
/- SketchHolds: each node's value is in its guess. -/
open Go Go.Proofs Go.RowKit
namespace Go.Proofs.YtahobmjchppciaaDoor.Sx.M5
set_option linter.unusedVariables false
set_option linter.unusedSimpArgs false
set_option linter.unusedSimpArgs false
theorem getD_app {α : Type} (l : List α) (x d : α) (j : Nat) : (l ++ [x]).getD j d = if j < l.length then l.getD j d else if j = l.length then x else d := by
  rw [List.getD_eq_getElem?_getD]
  by_cases c : j < l.length
  · rw [if_pos c, List.getElem?_append_left c, List.getD_eq_getElem?_getD]
  · rw [if_neg c, List.getElem?_append_right (by omega)]
    by_cases e : j = l.length
    · rw [if_pos e, e, Nat.sub_self]; rfl
    · rw [if_neg e, List.getElem?_eq_none (by simp; omega)]; rfl
theorem array_step {l : List Nd} {out : List Gu} {v : List Int} {e : Ev} {x : Nd} (h : x.op = 3 ∨ x.op = 4 ∨ x.op = 24) : gstep l out x = ⟨0, 0, 0, 0⟩ ∧ one_s l v e x = 0 := by
  have bt : ∀ v : Int, x.op = v → (x.op == v) = true := fun v h => beq_iff_eq.2 h
  have bf : ∀ v : Int, x.op ≠ v → (x.op == v) = false := fun v h => beq_eq_false_iff_ne.2 h
  unfold gstep one_s
  rw [decide_eq_false (by omega : ¬ (x.op = 5 ∨ (8 ≤ x.op ∧ x.op ≤ 21))), decide_eq_false (by omega : ¬ (x.op = 1 ∨ x.op = 2 ∨ x.op = 23)), decide_eq_true h, bf 0 (by omega), bf 1 (by omega), bf 2 (by omega)]
  refine ⟨rfl, ?_⟩
  rcases h with h | h | h
  · rw [bt 3 h]; rfl
  · rw [bf 3 (by omega), bt 4 h]; rfl
  · rw [bf 3 (by omega), bf 4 (by omega), bt 24 h]; rfl
theorem step_ni {l : List Nd} {out : List Gu} {v : List Int} {e : Ev} {x : Nd} {i : Nat} (I : Inv l out v) (hi : v.length = i) (A : NdA l x i) (hn : U64 x.n) (he : EvOk e) : NI x.w (gstep l out x) (one_s l v e x) := by
  by_cases c : x.op = 3 ∨ x.op = 4 ∨ x.op = 24
  · obtain ⟨e1, e2⟩ := array_step (l := l) (out := out) (v := v) (e := e) c
    rw [e1, e2]
    exact ⟨z_U, gu_zero, fun h => absurd (A.t.c3 c) h⟩
  · obtain ⟨n, e1, e2, L, ln, hw⟩ := good1 (out := out) I hi A hn he c
    rw [e1]
    exact NI.of_tight hw e2 ln L
theorem step_inv {l : List Nd} {out : List Gu} {v : List Int} {e : Ev} {i : Nat} (I : Inv l out v) (hi : v.length = i) (A : NdA l (l.getD i default) i) (hn : U64 (l.getD i default).n) (he : EvOk e) : Inv l (out ++ [gstep l out (l.getD i default)]) (v ++ [one_s l v e (l.getD i default)]) := by
  have N := step_ni I hi A hn he
  refine ⟨by simp [I.len], fun j hj => ?_⟩
  rw [getD_app, getD_app, I.len]
  by_cases c : j < v.length
  · rw [if_pos c, if_pos c]; exact I.i j c
  · have ej : j = v.length := by simp at hj; omega
    rw [if_neg c, if_neg c, if_pos ej, if_pos ej, ej, hi]
    exact N
theorem par {l : List Nd} {e : Ev} (hn : ∀ j, U64 (l.getD j default).n) (he : EvOk e) (hA : ∀ j, j < l.length → NdA l (l.getD j default) j) : ∀ (m : Nat) (out : List Gu) (v : List Int) (i : Int), 0 ≤ i → i ≤ l.length → l.length - i.toNat < m → v.length = i.toNat → Inv l out v → Inv l (sof_l0 l m out i).1 (val_l0 l e m v i) ∧ (sof_l0 l m out i).2 = 0 := by
  intro m
  induction m with
  | zero => intro out v i _ _ h; omega
  | succ m ih =>
    intro out v i h0 h1 hm hv I
    rw [sof_step, val_l0]
    cases c : decide (i < (l.length : Int)) with
    | false => exact ⟨I, rfl⟩
    | true =>
      have c := of_decide_eq_true c
      exact ih _ _ _ (by omega) (by omega) (by omega) (by simp; omega) (step_inv I hv (hA _ (by omega)) (hn _) he)
theorem all_inv {l : List Nd} {e : Ev} (hn : ∀ j, U64 (l.getD j default).n) (he : EvOk e) (h : (rchk_s l).1 = 0) : Inv l (sof_s l).1 (val_s l e) ∧ (sof_s l).2 = 0 := by
  rw [chk_same hn] at h
  unfold sof_s val_s
  rw [h]
  exact par hn he (nda_of hn h) _ _ _ _ (by omega) (by omega) (Nat.lt_succ_self _) rfl ⟨rfl, fun j hj => by simp at hj⟩
theorem lHol_l0_true {l : List Nd} {e : Ev} (I : Inv l (sof_s l).1 (val_s l e)) : ∀ (m : Nat) (i : Int), 0 ≤ i → (val_s l e).length - i.toNat < m → lHol_l0 l e m i = true := by
  intro m
  induction m with
  | zero => intro i _ h; omega
  | succ m ih =>
    intro i h0 hm
    rw [lHol_l0]
    cases c : decide (i < ((val_s l e).length : Int)) with
    | false => rfl
    | true =>
      have c := of_decide_eq_true c
      have N := I.i i.toNat (by omega)
      have nx := ih (i + 1) (by omega) (by omega)
      rw [nx, cond_true]
      generalize (val_s l e).getD i.toNat 0 = v at *
      generalize (sof_s l).1.getD i.toNat default = g at *
      cases cw : ((l.getD i.toNat default).w != (0 : Int)) with
      | false => rfl
      | true =>
        obtain ⟨q1, q2, q3, q4, q5, q6, q7⟩ := N.i (bne_iff_ne.1 cw)
        have u := N.u
        have r := N.r
        have f := (H.fits_iff (b := (g.z.toNat, g.e.toNat)) (x := v.toNat) (by show g.e.toNat < _; have := r.2.2.2; omega) (by omega)).2 q7
        obtain ⟨V, rfl⟩ : ∃ V : Nat, v = V := ⟨v.toNat, by omega⟩
        obtain ⟨Z, ez⟩ : ∃ Z : Nat, g.z = Z := ⟨g.z.toNat, by have := r.2.2.1; omega⟩
        obtain ⟨E, ee⟩ : ∃ E : Nat, g.e = E := ⟨g.e.toNat, by have := r.2.2.2; omega⟩
        have rz := r.2.2.1
        have re := r.2.2.2
        rw [ez, ee] at f
        rw [ez] at rz
        rw [ee] at re
        simp only [Int.toNat_natCast] at f
        rw [decide_eq_false (by omega), decide_eq_false (by omega), ee, ez, H.andNot_nat _ _ (by omega) (by omega), f.1, and_nat _ _ (by omega) (by omega), f.2]
        rfl
theorem lHol_t {l : List Nd} {e : Ev} (hn : ∀ j, U64 (l.getD j default).n) (he : EvOk e) : lHol_s l e = true := by
  unfold lHol_s
  cases c1 : gre_s l e with
  | true => rfl
  | false =>
    cases c2 : sma_s l 300 with
    | false => rfl
    | true =>
      obtain ⟨I, z⟩ := all_inv hn he (sma_t c2).1
      rw [z, lHol_l0_true I _ 0 (by omega) (Nat.lt_succ_self _), I.len]
      simp only [bne_self_eq_false, Bool.not_true, cond_false]
end Go.Proofs.YtahobmjchppciaaDoor.Sx.M5
/- SketchDecides: what is decided is so; without leaves but constants each guess is a point. -/
open Go Go.Proofs Go.RowKit
namespace Go.Proofs.YtahobmjchppciaaDoor.Sx.M5
set_option linter.unusedVariables false
set_option linter.unusedSimpArgs false
set_option linter.unusedSimpArgs false
/-- A guess that is a point, with all bits. -/
structure EI (w : Int) (g : Gu) (v : Int) : Prop where
  lo : g.lo = v
  hi : g.hi = v
  b : (g.z.toNat, g.e.toNat) = H.ofK (cw w) v.toNat
theorem of_nat {W n : Nat} (h : n < 2 ^ W) : H.ofK W n = (2 ^ W - 1 - n, n) := by unfold H.ofK; rw [Nat.mod_eq_of_lt h]
theorem ex_of_tight {w : Int} (hw : w = 1 ∨ w = 8 ∨ w = 64) {g : Gu} {n : Nat} (hn : n < 2 ^ w.toNat) (h : LoW (cw w) g n) (hb : H.rightK (cw w) (g.z.toNat, g.e.toNat) = H.ofK (cw w) n) : EI w (gtig_s w g) n := by
  have e := cw_w hw
  have hn' : n < 2 ^ cw w := by rw [e]; exact hn
  have t := T.tight_in w g h.z h.e hn' h.lo h.hi h.fit
  rw [hb, of_nat hn'] at t
  obtain ⟨Z, E, e1, e2, l1, l2, f, s⟩ := t.bits
  have t1 := t.lo
  have t2 := t.hi
  have t3 : (n : Int) ≤ (gtig_s w g).lo := t.lo'
  have t4 : (gtig_s w g).hi ≤ ((2 ^ cw w - 1 - (2 ^ cw w - 1 - n) : Nat) : Int) := t.hi'
  refine ⟨by omega, by omega, ?_⟩
  rw [e1, e2, Int.toNat_natCast, Int.toNat_natCast, Int.toNat_natCast, of_nat hn']
  have a1 : Z = 2 ^ cw w - 1 - n := by
    apply Nat.eq_of_testBit_eq
    intro i
    by_cases c : i < cw w
    · rw [T.not_bit hn' c]
      cases d : n.testBit i with
      | true =>
        cases q : Z.testBit i with
        | false => rfl
        | true => have := (f i).1 q; rw [d] at this; cases this
      | false => exact (s i).1 (by show (2 ^ cw w - 1 - n).testBit i = true; rw [T.not_bit hn' c, d]; rfl)
    · rw [T.bit_hi l1 (by omega), T.bit_hi (by omega : 2 ^ cw w - 1 - n < 2 ^ cw w) (by omega)]
  have a2 : E = n := by
    apply Nat.eq_of_testBit_eq
    intro i
    cases d : n.testBit i with
    | true => exact (s i).2 d
    | false =>
      cases q : E.testBit i with
      | false => rfl
      | true => have := (f i).2 q; have this : n.testBit i = true := this; rw [d] at this; cases this
  rw [a1, a2]
theorem wide_ex {a : Nat} {w : Int} (ha : a < 2 ^ cw w) : Go.bits .or .u64 ((2 ^ cw w - 1 - a : Nat) : Int) (Go.bits .xor .u64 IntKind.u64.max (mask_s w)) = ((2 ^ 64 - 1 - a : Nat) : Int) := by
  have hW := cw_range w
  have hp := Nat.two_pow_pos (cw w)
  have hp64 := pow_le64 hW.2
  rw [mask_eq w]
  have mx : IntKind.u64.max = ((2 ^ 64 - 1 : Nat) : Int) := rfl
  rw [mx, xor_nat _ _ (by omega) (by omega), not_nat _ _ (by omega : 2 ^ cw w - 1 < 2 ^ 64)]
  have s := all_split hW.2 (2 ^ cw w) (Nat.le_refl _)
  rw [Nat.sub_self, Nat.zero_add] at s
  have e2 : 2 ^ 64 - 1 - (2 ^ cw w - 1) = 2 ^ cw w * (2 ^ (64 - cw w) - 1) := by omega
  rw [or_nat _ _ (by omega) (by omega), e2, Nat.or_comm, ← Nat.two_pow_add_eq_or_of_lt (by omega : 2 ^ cw w - 1 - a < 2 ^ cw w), ← e2]
  congr 1
  omega
theorem low_ex {a : Nat} (ha : a < 2 ^ 64) : H.rightK 8 (H.ofK 64 a) = H.ofK 8 (a % 256) := by
  rw [of_nat ha, of_nat (by omega : a % 256 < 2 ^ 8)]
  have e1 : (2 ^ 64 - 1 - a) % 2 ^ 8 = 2 ^ 8 - 1 - a % 256 := by omega
  have e2 : a % 2 ^ 8 = a % 256 := rfl
  have ok := H.of_okK 8 (a % 256)
  rw [of_nat (by omega : a % 256 < 2 ^ 8)] at ok
  unfold H.rightK
  simp only [e1, e2]
  rw [if_pos ok.2.2]
/-- The next node's bits are all known, if its kids' are. -/
theorem loose_ex {l : List Nd} {out : List Gu} {v : List Int} {e : Ev} {x : Nd} {i : Nat} (I : Inv l out v) (X : ∀ j, j < v.length → EI (l.getD j default).w (out.getD j default) (v.getD j 0)) (hi : v.length = i) (A : NdA l x i) (hn : U64 x.n) (c : x.op = 0 ∨ (5 ≤ x.op ∧ x.op ≤ 22)) {n : Nat} (h1 : one_s l v e x = n) (hln : n < 2 ^ x.w.toNat) (hw : x.w = 1 ∨ x.w = 8 ∨ x.w = 64) : H.rightK (cw x.w) ((gloose l out x).z.toNat, (gloose l out x).e.toNat) = H.ofK (cw x.w) n := by
  have ho := A.ok.op
  have bt : ∀ v : Int, x.op = v → (x.op == v) = true := fun v h => beq_iff_eq.2 h
  have bf : ∀ v : Int, x.op ≠ v → (x.op == v) = false := fun v h => beq_eq_false_iff_ne.2 h
  have rid : ∀ W m : Nat, H.rightK W (H.ofK W m) = H.ofK W m := fun W m => H.right_ofK (H.of_okK W m)
  unfold one_s at h1
  unfold gloose
  have cs : (x.op = 5 ∨ (8 ≤ x.op ∧ x.op ≤ 21)) ∨ x.op = 0 ∨ x.op = 6 ∨ x.op = 7 ∨ x.op = 22 := by omega
  rcases cs with c | c | c | c | c
  · rw [bf 0 (by omega), bf 1 (by omega), bf 2 (by omega), bf 3 (by omega), bf 4 (by omega), bf 24 (by omega), bf 6 (by omega), bf 7 (by omega), bf 22 (by omega), bf 23 (by omega)] at h1
    simp only [cond_false] at h1
    rw [decide_eq_true c, cond_true]
    have k0 := A.ok.k (by omega) 0 (by decide)
    have k1 := A.ok.k (by omega) 1 (by decide)
    have N0 := I.i (x.k 0).toNat (by omega)
    have N1 := I.i (x.k 1).toNat (by omega)
    have X0 := X (x.k 0).toNat (by omega)
    have X1 := X (x.k 1).toNat (by omega)
    have hw0 : kw l x 0 ≠ 0 := by
      rcases (show x.op = 5 ∨ (8 ≤ x.op ∧ x.op ≤ 18) ∨ (19 ≤ x.op ∧ x.op ≤ 21) by omega) with q | q | q
      · exact (A.t.c5 q).1
      · exact (A.t.c8 q).1
      · exact (A.t.c19 q).2.1
    obtain ⟨a, ea, la, La, wa⟩ := NI.nat N0 hw0
    have la : a < 2 ^ cw (kw l x 0) := la
    have wa : kw l x 0 = 1 ∨ kw l x 0 = 8 ∨ kw l x 0 = 64 := wa
    have hW := cw_range (kw l x 0)
    have hp := pow_le64 hW.2
    have uB := N1.u
    obtain ⟨B, eB⟩ : ∃ B : Nat, v.getD (x.k 1).toNat 0 = B := ⟨(v.getD (x.k 1).toNat 0).toNat, by omega⟩
    have ra := rapp_eq x.op (kw l x 0) a B (by omega) (by omega)
    rw [Nat.mod_eq_of_lt la] at ra
    have h1 : rapp_s x.op (kw l x 0) (v.getD (x.k 0).toNat 0) (v.getD (x.k 1).toNat 0) = n := h1
    rw [ea, eB, ra] at h1
    have en : applyN x.op (cw (kw l x 0)) a (B % 2 ^ cw (kw l x 0)) = n := by omega
    have b0 : ((out.getD (x.k 0).toNat default).z.toNat, (out.getD (x.k 0).toNat default).e.toNat) = H.ofK (cw (kw l x 0)) a := by
      have := X0.b
      rw [ea] at this
      exact this
    have an : cw x.w = H.ansK x.op (cw (kw l x 0)) := by
      unfold H.ansK
      rcases (show x.op = 5 ∨ (8 ≤ x.op ∧ x.op ≤ 18) ∨ (19 ≤ x.op ∧ x.op ≤ 21) by omega) with q | q | q
      · rw [if_neg (by omega), (A.t.c5 q).2]
      · rw [if_neg (by omega), (A.t.c8 q).2.2]
      · rw [if_pos (by omega), (A.t.c19 q).1]; rfl
    have k := H.kapply_eq x.op (kw l x 0) ((out.getD (x.k 0).toNat default).z.toNat, (out.getD (x.k 0).toNat default).e.toNat) ((out.getD (x.k 1).toNat default).z.toNat, (out.getD (x.k 1).toNat default).e.toNat) (by have := N0.r.2.2.1; show (out.getD (x.k 0).toNat default).z.toNat < _; omega) (by have := N0.r.2.2.2; show (out.getD (x.k 0).toNat default).e.toNat < _; omega) (by have := N1.r.2.2.1; show (out.getD (x.k 1).toNat default).z.toNat < _; omega) (by have := N1.r.2.2.2; show (out.getD (x.k 1).toNat default).e.toNat < _; omega)
    simp only [Int.toNat_of_nonneg N0.r.2.2.1.1, Int.toNat_of_nonneg N0.r.2.2.2.1, Int.toNat_of_nonneg N1.r.2.2.1.1, Int.toNat_of_nonneg N1.r.2.2.2.1] at k
    have ka : H.kapplyK x.op (cw (kw l x 0)) ((out.getD (x.k 0).toNat default).z.toNat, (out.getD (x.k 0).toNat default).e.toNat) ((out.getD (x.k 1).toNat default).z.toNat, (out.getD (x.k 1).toNat default).e.toNat) = H.ofK (cw x.w) n := by
      unfold H.kapplyK
      rw [if_pos (isOpK_of c), b0, H.num_of la, an]
      by_cases h5 : x.op = 5
      · rw [if_pos ⟨rfl, .inr h5⟩, ← en]
        have ap : ∀ y : Nat, applyN x.op (cw (kw l x 0)) a y = 2 ^ cw (kw l x 0) - 1 - a := fun y => by rw [h5]; simp [applyN]
        simp only [ap]
      · have y1 : kw l x 0 = kw l x 1 := by
          rcases (show (8 ≤ x.op ∧ x.op ≤ 18) ∨ (19 ≤ x.op ∧ x.op ≤ 21) by omega) with q | q
          · exact (A.t.c8 q).2.1
          · exact (A.t.c19 q).2.2
        obtain ⟨b, eb, lb, Lb, wb⟩ := NI.nat N1 (show kw l x 1 ≠ 0 by rw [← y1]; exact hw0)
        have lb : b < 2 ^ cw (kw l x 1) := lb
        obtain rfl : B = b := by omega
        rw [← y1] at lb
        have b1 : ((out.getD (x.k 1).toNat default).z.toNat, (out.getD (x.k 1).toNat default).e.toNat) = H.ofK (cw (kw l x 0)) B := by
          have := X1.b
          rw [eB] at this
          rw [y1]
          exact this
        rw [b1, H.num_of lb, if_pos ⟨rfl, .inl rfl⟩, ← en, Nat.mod_eq_of_lt lb]
    rw [ka] at k
    have k' : kapp_s x.op (kid0_s l out x).2 (kid0_s l out x).1.z (kid0_s l out x).1.e (kid1_s l out x).1.z (kid1_s l out x).1.e = H.KZ (H.ofK (cw x.w) n) := k
    unfold mapp_s
    rw [k']
    exact rid _ _
  · rw [bt 0 c] at h1
    have h1 : x.n = n := h1
    rw [decide_eq_false (by omega : ¬ (x.op = 5 ∨ (8 ≤ x.op ∧ x.op ≤ 21))), decide_eq_false (by omega : ¬ (x.op = 1 ∨ x.op = 2 ∨ x.op = 23)), decide_eq_true c]
    have ke := H.kof_eq x.w n (by rw [h1] at hn; omega)
    show H.rightK (cw x.w) ((mcon_s l out x).z.toNat, (mcon_s l out x).e.toNat) = _
    unfold mcon_s
    rw [h1, ke]
    exact rid _ _
  · have k0 := A.ok.k (by omega) 0 (by decide)
    have N0 := I.i (x.k 0).toNat (by omega)
    have X0 := X (x.k 0).toNat (by omega)
    have tw := A.t.c6 c
    obtain ⟨a, ea, la, La, wa⟩ := NI.nat N0 (show kw l x 0 ≠ 0 by omega)
    have la : a < 2 ^ cw (kw l x 0) := la
    rw [bf 0 (by omega), bf 1 (by omega), bf 2 (by omega), bf 3 (by omega), bf 4 (by omega), bf 24 (by omega), bt 6 c, ea] at h1
    have h1 : (a : Int) = n := h1
    obtain rfl : a = n := by omega
    rw [decide_eq_false (by omega : ¬ (x.op = 5 ∨ (8 ≤ x.op ∧ x.op ≤ 21))), decide_eq_false (by omega : ¬ (x.op = 1 ∨ x.op = 2 ∨ x.op = 23)), decide_eq_false (by omega : ¬ x.op = 0), decide_eq_true c]
    show H.rightK (cw x.w) ((mwid_s l out x).z.toNat, (mwid_s l out x).e.toNat) = _
    have b0 : ((out.getD (x.k 0).toNat default).z.toNat, (out.getD (x.k 0).toNat default).e.toNat) = H.ofK (cw (kw l x 0)) a := by
      have := X0.b
      rw [ea] at this
      exact this
    rw [of_nat la, Prod.mk.injEq] at b0
    have z0 : (kid0_s l out x).1.z = ((2 ^ cw (kw l x 0) - 1 - a : Nat) : Int) := by
      have := N0.r.2.2.1
      show (out.getD (x.k 0).toNat default).z = _
      omega
    have we : Go.bits .or .u64 ((kid0_s l out x).1.z) (Go.bits .xor .u64 IntKind.u64.max (mask_s ((kid0_s l out x).2))) = ((2 ^ 64 - 1 - a : Nat) : Int) := by
      rw [z0]; exact wide_ex la
    have e64 : cw x.w = 64 := by rw [cw_w hw, tw.1]; rfl
    have l64 : a < 2 ^ 64 := by rw [tw.1, pow_64] at hln; omega
    unfold mwid_s
    rw [we]
    show H.rightK (cw x.w) (((2 ^ 64 - 1 - a : Nat) : Int).toNat, (out.getD (x.k 0).toNat default).e.toNat) = _
    rw [Int.toNat_natCast, b0.2, e64, ← of_nat l64]
    exact rid _ _
  · have k0 := A.ok.k (by omega) 0 (by decide)
    have N0 := I.i (x.k 0).toNat (by omega)
    have X0 := X (x.k 0).toNat (by omega)
    have tw := A.t.c7 c
    obtain ⟨a, ea, la, La, wa⟩ := NI.nat N0 (show kw l x 0 ≠ 0 by omega)
    have la : a < 2 ^ cw (kw l x 0) := la
    have e64 : cw (kw l x 0) = 64 := by rw [tw.2]; decide
    rw [e64] at la
    rw [bf 0 (by omega), bf 1 (by omega), bf 2 (by omega), bf 3 (by omega), bf 4 (by omega), bf 24 (by omega), bf 6 (by omega), bt 7 c, ea] at h1
    have h1 : ((a % 256 : Nat) : Int) = n := h1
    obtain rfl : a % 256 = n := by omega
    rw [decide_eq_false (by omega : ¬ (x.op = 5 ∨ (8 ≤ x.op ∧ x.op ≤ 21))), decide_eq_false (by omega : ¬ (x.op = 1 ∨ x.op = 2 ∨ x.op = 23)), decide_eq_false (by omega : ¬ x.op = 0), decide_eq_false (by omega : ¬ x.op = 6), decide_eq_true c]
    show H.rightK (cw x.w) ((mlow_s l out x).z.toNat, (mlow_s l out x).e.toNat) = _
    have b0 : ((out.getD (x.k 0).toNat default).z.toNat, (out.getD (x.k 0).toNat default).e.toNat) = H.ofK 64 a := by
      have := X0.b
      rw [ea, show (l.getD (x.k 0).toNat default).w = kw l x 0 from rfl, e64] at this
      exact this
    have e8 : cw x.w = 8 := by rw [tw.1]; decide
    have ml : ((mlow_s l out x).z.toNat, (mlow_s l out x).e.toNat) = H.ofK 64 a := by
      rw [← b0]
      unfold mlow_s
      cases decide ((kid0_s l out x).1.hi > (255 : Int)) <;> rfl
    rw [ml, e8, low_ex la]
  · have k0 := A.ok.k (by omega) 0 (by decide)
    have k1 := A.ok.k (by omega) 1 (by decide)
    have k2 := A.ok.k (by omega) 2 (by decide)
    obtain ⟨t0, t1, t2, t3⟩ := A.t.c22 c
    have N0 := I.i (x.k 0).toNat (by omega)
    have N1 := I.i (x.k 1).toNat (by omega)
    have N2 := I.i (x.k 2).toNat (by omega)
    have X0 := X (x.k 0).toNat (by omega)
    have X1 := X (x.k 1).toNat (by omega)
    have X2 := X (x.k 2).toNat (by omega)
    obtain ⟨a, ea, la, La, wa⟩ := NI.nat N0 (show kw l x 0 ≠ 0 by omega)
    obtain ⟨b, eb, lb, Lb, wb⟩ := NI.nat N1 (show kw l x 1 ≠ 0 by omega)
    obtain ⟨d, ed, ld, Ld, wd⟩ := NI.nat N2 (show kw l x 2 ≠ 0 by omega)
    have la : a < 2 ^ cw (kw l x 0) := la
    rw [t0] at la
    have la : a < 2 := la
    have b1 : ((out.getD (x.k 1).toNat default).z.toNat, (out.getD (x.k 1).toNat default).e.toNat) = H.ofK (cw x.w) b := by
      have := X1.b
      rw [eb, show (l.getD (x.k 1).toNat default).w = kw l x 1 from rfl, ← t3] at this
      exact this
    have b2 : ((out.getD (x.k 2).toNat default).z.toNat, (out.getD (x.k 2).toNat default).e.toNat) = H.ofK (cw x.w) d := by
      have := X2.b
      rw [ed, show (l.getD (x.k 2).toNat default).w = kw l x 2 from rfl, ← t2, ← t3] at this
      exact this
    have x1 : (kid0_s l out x).1.lo = (a : Int) := X0.lo.trans ea
    have x2 : (kid0_s l out x).1.hi = (a : Int) := X0.hi.trans ea
    rw [bf 0 (by omega), bf 1 (by omega), bf 2 (by omega), bf 3 (by omega), bf 4 (by omega), bf 24 (by omega), bf 6 (by omega), bf 7 (by omega), bt 22 c, ea, eb, ed] at h1
    simp only [cond_true, cond_false] at h1
    rw [decide_eq_false (by omega : ¬ (x.op = 5 ∨ (8 ≤ x.op ∧ x.op ≤ 21))), decide_eq_false (by omega : ¬ (x.op = 1 ∨ x.op = 2 ∨ x.op = 23)), decide_eq_false (by omega : ¬ x.op = 0), decide_eq_false (by omega : ¬ x.op = 6), decide_eq_false (by omega : ¬ x.op = 7)]
    show H.rightK (cw x.w) ((mcho_s l out x).z.toNat, (mcho_s l out x).e.toNat) = _
    unfold mcho_s
    rw [x1, x2]
    by_cases v1 : a = 1
    · have q : ((a : Int) == (1 : Int)) = true := by rw [v1]; rfl
      rw [q] at h1 ⊢
      have h1 : (b : Int) = n := h1
      obtain rfl : b = n := by omega
      show H.rightK (cw x.w) ((out.getD (x.k 1).toNat default).z.toNat, (out.getD (x.k 1).toNat default).e.toNat) = _
      rw [b1]; exact rid _ _
    · have q : ((a : Int) == (1 : Int)) = false := beq_eq_false_iff_ne.2 (by omega)
      have q2 : ((a : Int) == (0 : Int)) = true := beq_iff_eq.2 (by omega)
      rw [q] at h1 ⊢
      rw [q2]
      have h1 : (d : Int) = n := h1
      obtain rfl : d = n := by omega
      show H.rightK (cw x.w) ((out.getD (x.k 2).toNat default).z.toNat, (out.getD (x.k 2).toNat default).e.toNat) = _
      rw [b2]; exact rid _ _
end Go.Proofs.YtahobmjchppciaaDoor.Sx.M5
/- SketchDecides: the plain law. -/
open Go Go.Proofs Go.RowKit
namespace Go.Proofs.YtahobmjchppciaaDoor.Sx.M5
set_option linter.unusedVariables false
set_option linter.unusedSimpArgs false
set_option linter.unusedSimpArgs false
/-- All guesses are points. -/
def Ex (l : List Nd) (out : List Gu) (v : List Int) : Prop := ∀ j, j < v.length → EI (l.getD j default).w (out.getD j default) (v.getD j 0)
theorem step_ex {l : List Nd} {out : List Gu} {v : List Int} {e : Ev} {i : Nat} (I : Inv l out v) (X : Ex l out v) (hi : v.length = i) (A : NdA l (l.getD i default) i) (hn : U64 (l.getD i default).n) (he : EvOk e) (c : (l.getD i default).op = 0 ∨ (5 ≤ (l.getD i default).op ∧ (l.getD i default).op ≤ 22)) : Ex l (out ++ [gstep l out (l.getD i default)]) (v ++ [one_s l v e (l.getD i default)]) := by
  intro j hj
  rw [getD_app, getD_app, I.len]
  by_cases cj : j < v.length
  · rw [if_pos cj, if_pos cj]; exact X j cj
  · have ej : j = v.length := by simp at hj; omega
    rw [if_neg cj, if_neg cj, if_pos ej, if_pos ej, ej, hi]
    obtain ⟨n, e1, e2, L, ln, hw⟩ := good1 (out := out) I hi A hn he (by omega)
    rw [e1, e2]
    exact ex_of_tight hw ln L (loose_ex I X hi A hn c e2 ln hw)
theorem par_ex {l : List Nd} {e : Ev} (hn : ∀ j, U64 (l.getD j default).n) (he : EvOk e) (hA : ∀ j, j < l.length → NdA l (l.getD j default) j) (hc : ∀ j, j < l.length → (l.getD j default).op = 0 ∨ (5 ≤ (l.getD j default).op ∧ (l.getD j default).op ≤ 22)) : ∀ (m : Nat) (out : List Gu) (v : List Int) (i : Int), 0 ≤ i → i ≤ l.length → l.length - i.toNat < m → v.length = i.toNat → Inv l out v → Ex l out v → Ex l (sof_l0 l m out i).1 (val_l0 l e m v i) := by
  intro m
  induction m with
  | zero => intro out v i _ _ h; omega
  | succ m ih =>
    intro out v i h0 h1 hm hv I X
    rw [sof_step, val_l0]
    cases c : decide (i < (l.length : Int)) with
    | false => exact X
    | true =>
      have c := of_decide_eq_true c
      exact ih _ _ _ (by omega) (by omega) (by omega) (by simp; omega) (step_inv I hv (hA _ (by omega)) (hn _) he) (step_ex I X hv (hA _ (by omega)) (hn _) he (hc _ (by omega)))
theorem all_ex {l : List Nd} {e : Ev} (hn : ∀ j, U64 (l.getD j default).n) (he : EvOk e) (h : (rchk_s l).1 = 0) (hc : ∀ j, j < l.length → (l.getD j default).op = 0 ∨ (5 ≤ (l.getD j default).op ∧ (l.getD j default).op ≤ 22)) : Ex l (sof_s l).1 (val_s l e) := by
  rw [chk_same hn] at h
  unfold sof_s val_s
  rw [h]
  exact par_ex hn he (nda_of hn h) hc _ _ _ _ (by omega) (by omega) (Nat.lt_succ_self _) rfl ⟨rfl, fun j hj => by simp at hj⟩ (fun j hj => by simp at hj)
theorem lDec_l1_true {l : List Nd} {e : Ev} (hl : (sof_s l).1.length = l.length) (vl : (val_s l e).length = l.length) (X : Ex l (sof_s l).1 (val_s l e)) (fin : (l.getD (((l.length : Int) - 1).toNat) default).w = 1 → (sdec_s l).1 ≠ 0) : ∀ (m : Nat) (i : Int), 0 ≤ i → l.length - i.toNat < m → lDec_l1 l e m i = true := by
  intro m
  induction m with
  | zero => intro i _ h; omega
  | succ m ih =>
    intro i h0 hm
    rw [lDec_l1]
    cases c : decide (i < (l.length : Int)) with
    | false =>
      rw [cond_false]
      cases d : ((l.getD (((l.length : Int) - 1).toNat) default).w == (1 : Int)) with
      | false => rfl
      | true => exact bne_iff_ne.2 (fin (eq_of_beq d))
    | true =>
      have c := of_decide_eq_true c
      have E := X i.toNat (by omega)
      rw [decide_eq_false (by omega : ¬ i ≥ ((sof_s l).1.length : Int)), E.lo, E.hi]
      simp only [bne_self_eq_false, cond_true, cond_false]
      exact ih (i + 1) (by omega) (by omega)
theorem lDec_l0_true {l : List Nd} {e : Ev} (hA : ∀ j, j < l.length → NdA l (l.getD j default) j) (fin : (∀ j, j < l.length → (l.getD j default).op = 0 ∨ (5 ≤ (l.getD j default).op ∧ (l.getD j default).op ≤ 22)) → lDec_l1 l e (l.length - ((0) : Int).toNat + 1) 0 = true) : ∀ (m : Nat) (i : Int), 0 ≤ i → l.length - i.toNat < m → (∀ j : Nat, j < i → j < l.length → (l.getD j default).op = 0 ∨ (5 ≤ (l.getD j default).op ∧ (l.getD j default).op ≤ 22)) → lDec_l0 l e m i = true := by
  intro m
  induction m with
  | zero => intro i _ h; omega
  | succ m ih =>
    intro i h0 hm hc
    rw [lDec_l0]
    cases c : decide (i < (l.length : Int)) with
    | false =>
      have c := of_decide_eq_false c
      rw [cond_false]
      exact fin fun j hj => hc j (by omega) hj
    | true =>
      have c := of_decide_eq_true c
      have A := (hA i.toNat (by omega)).ok.op
      have nx : ((l.getD i.toNat default).op = 0 ∨ (5 ≤ (l.getD i.toNat default).op ∧ (l.getD i.toNat default).op ≤ 22)) → lDec_l0 l e m (i + 1) = true := fun q => ih (i + 1) (by omega) (by omega) fun j hj hl => by
        by_cases ej : (j : Int) = i
        · obtain rfl : j = i.toNat := by omega
          exact q
        · exact hc j (by omega) hl
      rw [cond_true]
      generalize (l.getD i.toNat default).op = op at *
      cases c1 : decide (op ≥ (1 : Int)) with
      | true =>
        have c1 := of_decide_eq_true c1
        cases c2 : decide (op ≤ (4 : Int)) with
        | true => rfl
        | false =>
          have c2 := of_decide_eq_false c2
          cases c3 : decide (op ≥ (23 : Int)) with
          | true => rfl
          | false => have c3 := of_decide_eq_false c3; exact nx (by omega)
      | false =>
        have c1 := of_decide_eq_false c1
        cases c3 : decide (op ≥ (23 : Int)) with
        | true => rfl
        | false => have c3 := of_decide_eq_false c3; exact nx (by omega)
theorem lDec_t {l : List Nd} {e : Ev} (hn : ∀ j, U64 (l.getD j default).n) (he : EvOk e) : lDec_s l e = true := by
  unfold lDec_s
  cases c1 : gre_s l e with
  | true => rfl
  | false =>
    cases c2 : sma_s l 300 with
    | false => rfl
    | true =>
      obtain ⟨k, k1⟩ := sma_t c2
      obtain ⟨I, z⟩ := all_inv hn he k
      have vl := val_len l e
      have hA := nda_of hn (by rw [← chk_same hn]; exact k)
      have gl : (sof_s l).1.length = l.length := I.len.trans vl
      rw [vl]
      have N := I.i (((l.length : Int) - 1).toNat) (by omega)
      have XE := fun hc => (all_ex hn he k hc) (((l.length : Int) - 1).toNat) (by rw [vl]; omega)
      have L0 := fun (fin : (∀ j, j < l.length → (l.getD j default).op = 0 ∨ (5 ≤ (l.getD j default).op ∧ (l.getD j default).op ≤ 22)) → (l.getD (((l.length : Int) - 1).toNat) default).w = 1 → (sdec_s l).1 ≠ 0) => lDec_l0_true (l := l) (e := e) hA (fun hc => lDec_l1_true gl vl (all_ex hn he k hc) (fin hc) _ 0 (by omega) (Nat.lt_succ_self _)) (l.length - ((0) : Int).toNat + 1) 0 (by omega) (Nat.lt_succ_self _) (fun j hj => by omega)
      unfold sdec_s at L0 ⊢
      rw [z] at L0 ⊢
      generalize ((l.length : Int) - 1).toNat = L at *
      generalize hv : (val_s l e).getD L 0 = v at *
      generalize hg : (sof_s l).1.getD L default = g at *
      generalize hw : (l.getD L default).w = w at *
      simp only [bne_self_eq_false, cond_false, Bool.not_true] at L0 ⊢
      cases cw1 : (w == (1 : Int)) with
      | false =>
        have nw : w ≠ 1 := ne_of_beq_false cw1
        rw [show (w != (1 : Int)) = true from bne_iff_ne.2 nw] at L0 ⊢
        have T := L0 fun _ h => absurd h nw
        rw [T]
        rfl
      | true =>
        have ew : w = 1 := eq_of_beq cw1
        rw [show (w != (1 : Int)) = false by rw [ew]; rfl] at L0 ⊢
        obtain ⟨q1, q2, q3, q4, _⟩ := N.i (by omega)
        have u := N.u
        rw [ew] at q2
        have q2 : v < 2 := q2
        simp only [cond_false] at L0 ⊢
        cases d1 : (g.lo == (1 : Int)) with
        | true =>
          have d1' : g.lo = 1 := eq_of_beq d1
          rw [d1] at L0
          have T := L0 fun _ _ => by simp only [cond_true]; decide
          rw [T]
          have ev : v = 1 := by omega
          rw [ev]
          rfl
        | false =>
          have d1' : g.lo ≠ 1 := ne_of_beq_false d1
          rw [d1] at L0
          cases d2 : (g.hi == (0 : Int)) with
          | true =>
            have d2' : g.hi = 0 := eq_of_beq d2
            rw [d2] at L0
            have T := L0 fun _ _ => by simp only [cond_true, cond_false]; decide
            rw [T]
            have ev : v = 0 := by omega
            rw [ev]
            rfl
          | false =>
            have d2' : g.hi ≠ 0 := ne_of_beq_false d2
            rw [d2] at L0
            have T := L0 fun hc _ => by
              have E := XE hc
              have e1 := E.lo
              have e2 := E.hi
              omega
            rw [T]
            rfl
end Go.Proofs.YtahobmjchppciaaDoor.Sx.M5
/- The laws SketchHolds and SketchDecides as contracts over what is handed over. -/
open Go Go.Proofs Go.RowKit Go.ChangeShapes Go.WideShapes
namespace Go.Proofs.YtahobmjchppciaaDoor.Sx.M5
set_option linter.unusedVariables false
set_option linter.unusedSimpArgs false
theorem u64_of_wf {x : Int} (h : (Lit.int .u64 x).wf = true) : 0 ≤ x ∧ x < 18446744073709551616 := by
  simp [Lit.wf, IntKind.min, IntKind.max, IntKind.signed, IntKind.bits] at h
  omega
theorem u8_of_wf {x : Int} (h : (Lit.int .u8 x).wf = true) : 0 ≤ x ∧ x ≤ 255 := by
  simp [Lit.wf, IntKind.min, IntKind.max, IntKind.signed, IntKind.bits] at h
  omega
/-- A node out of its numbers. -/
def mkN (ns : List Int) : Nd := match ns with
  | [a, b, c, x, y, z] => ⟨a, b, c, fun j => if j = 0 then x else if j = 1 then y else z⟩
  | _ => default
section
variable {H : Type} {enc : TypeId × Value → H} {w : World} {base : Nat} {spare : Nat → Bool} {held : Bool}
theorem open_nodes {a : Option Addr} {len cap : Nat} {d : DataW H} {p : List MemPlace} (h : DataW.Trod enc Tryd.prog w base spare held 22 (.slice a len cap) d p) : ∃ l : List Nd, (∀ j, U64 (l.getD j default).n) ∧ ∀ ρ, Rep ρ (fun b => w.heap[b]?) (.ro 6 l.length (l.map eNd)) (.slice a len cap) := by
  obtain ⟨fuel, h⟩ := h
  have h : DataW.trod enc Tryd.prog w base spare held fuel 22 [.slice a len cap] = some (d, p) := by simpa [Value.cells] using h
  obtain ⟨rows, h1, h2, h3, h4⟩ := open_ro (n := 8) (ks := [.i64, .i64, .u64, .i64, .i64, .i64]) Tryd.underlying22 (by kernel_rfl) (by kernel_rfl) (by decide) h
  refine ⟨rows.map mkN, fun j => ?_, fun ρ => ?_⟩
  · by_cases c : j < (rows.map mkN).length
    · rw [List.getD_eq_getElem?_getD, List.getElem?_eq_getElem c]
      have hm : (rows.map mkN)[j] ∈ rows.map mkN := List.getElem_mem c
      generalize (rows.map mkN)[j] = y at *
      obtain ⟨ns, hns, rfl⟩ := List.mem_map.1 hm
      obtain ⟨hn, hw⟩ := h1 ns hns
      match ns, hn, hw with
      | [a, b, c, x, y, z], _, hw => exact u64_of_wf hw.2.2.1
    · rw [List.getD_eq_getElem?_getD, List.getElem?_eq_none (by omega)]
      exact z_U
  · have := h4 ρ
    rw [List.length_map, List.map_map]
    rwa [show rows.map (cells [.i64, .i64, .u64, .i64, .i64, .i64]) = rows.map (eNd ∘ mkN) from List.map_congr_left fun ns hns => by
      match ns, (h1 ns hns).1 with
      | [a, b, c, x, y, z], _ => rfl] at this
theorem bytes_ro {a : Option Addr} {len cap fuel : Nat} {x : DataW H × List MemPlace} (h : DataW.trod enc Tryd.prog w base spare held fuel 23 [.slice a len cap] = some x) : ∃ l : List Int, (∀ j, 0 ≤ l.getD j 0 ∧ l.getD j 0 ≤ 255) ∧ ∀ ρ, Rep ρ (fun b => w.heap[b]?) (.ro 1 l.length (l.map eb)) (.slice a len cap) := by
  obtain ⟨rows, h1, h2, h3, h4⟩ := open_ro (n := 8) (ks := [.u8]) Tryd.underlying23 (by kernel_rfl) (by kernel_rfl) (by decide) h
  refine ⟨rows.map (fun ns => ns.headD 0), fun j => ?_, fun ρ => ?_⟩
  · by_cases c : j < (rows.map (fun ns => ns.headD 0)).length
    · rw [List.getD_eq_getElem?_getD, List.getElem?_eq_getElem c]
      have hm : (rows.map (fun ns => ns.headD 0))[j] ∈ rows.map (fun ns => ns.headD 0) := List.getElem_mem c
      generalize (rows.map (fun ns => ns.headD 0))[j] = y at *
      obtain ⟨ns, hns, rfl⟩ := List.mem_map.1 hm
      obtain ⟨hn, hw⟩ := h1 ns hns
      match ns, hn, hw with
      | [x], _, hw => exact u8_of_wf hw.1
    · rw [List.getD_eq_getElem?_getD, List.getElem?_eq_none (by omega)]
      exact ⟨by decide, by decide⟩
  · have := h4 ρ
    rw [List.length_map, List.map_map]
    rwa [show rows.map (cells [.u8]) = rows.map (eb ∘ fun ns => ns.headD 0) from List.map_congr_left fun ns hns => by
      match ns, (h1 ns hns).1 with
      | [x], _ => rfl] at this
theorem slice_cell {t e : TypeId} {fuel : Nat} {cs : List Value} {x : DataW H × List MemPlace} (ht : Tryd.prog.underlying t = some (.slice e)) (h : DataW.trod enc Tryd.prog w base spare held fuel t cs = some x) : ∃ a len cap, cs = [.slice a len cap] := by
  rcases Go.Deep.open_slice ht h with ⟨rfl, _⟩ | ⟨a, len, cap, _, _, _, _, rfl, _⟩
  · exact ⟨_, _, _, rfl⟩
  · exact ⟨_, _, _, rfl⟩
set_option maxRecDepth 100000 in
theorem open_env {r : Reach} {b0 : Nat} {v : Value} {d : DataW H} {p : List MemPlace} (hv : Value.okWide Tryd.prog w r b0 27 v) (h : DataW.Trod enc Tryd.prog w base spare held 27 v d p) : ∃ e : Ev, EvOk e ∧ ∀ ρ, Rep ρ (fun b => w.heap[b]?) (.agg (cat [.ro 1 e.inp.length (e.inp.map eb)] (cat (arrA aU 8 e.regs) [.ro 1 e.mem.length (e.mem.map eb)]))) v := by
  obtain ⟨cs, rfl, _⟩ := okWide_struct Tryd.underlying27 hv
  obtain ⟨fuel, h⟩ := h
  obtain ⟨xs, q, _, _, hlen, hxl, hi⟩ := DataW.trod_struct Tryd.underlying27 h
  have hl : cs.toList.length = 10 := hlen.trans (by kernel_rfl)
  have c23 : Tryd.prog.cellsOf 23 = 1 := by kernel_rfl
  have c25 : Tryd.prog.cellsOf 25 = 8 := by kernel_rfl
  have hc : (Value.agg cs).cells.toList = cs.toList := rfl
  rw [hc] at hi
  have h0 : DataW.trod enc Tryd.prog w base spare held q 23 ((cs.toList.drop 0).take (Tryd.prog.cellsOf 23)) = xs[0]? := hi 0 _ rfl
  have h1 : DataW.trod enc Tryd.prog w base spare held q 25 ((cs.toList.drop 1).take (Tryd.prog.cellsOf 25)) = xs[1]? := hi 1 _ rfl
  have h2 : DataW.trod enc Tryd.prog w base spare held q 23 ((cs.toList.drop 9).take (Tryd.prog.cellsOf 23)) = xs[2]? := hi 2 _ rfl
  simp only [c23, c25] at h0 h1 h2
  have hx : xs.length = 3 := hxl
  obtain ⟨l, rfl⟩ : ∃ l, cs = List.toArray l := ⟨cs.toList, by simp⟩
  simp only [] at hl h0 h1 h2
  match l, hl, xs, hx, h0, h1, h2 with
  | [a0, a1, a2, a3, a4, a5, a6, a7, a8, a9], _, [x0, x1, x2], _, h0, h1, h2 =>
    simp only [List.drop_zero, List.drop_succ_cons, List.take_succ_cons, List.take_zero, List.getElem?_cons_zero, List.getElem?_cons_succ] at h0 h1 h2
    obtain ⟨A0, n0, p0, e0⟩ := slice_cell Tryd.underlying23 h0
    obtain ⟨A2, n2, p2, e2⟩ := slice_cell Tryd.underlying23 h2
    simp only [List.cons.injEq, and_true] at e0 e2
    subst e0 e2
    obtain ⟨inp, i1, i2⟩ := bytes_ro h0
    obtain ⟨mem, m1, m2⟩ := bytes_ro h2
    obtain ⟨ns, hn, e, hw⟩ := flat_open (P := Tryd.prog) 8 25 [.u64, .u64, .u64, .u64, .u64, .u64, .u64, .u64] q _ _ (by kernel_rfl) h1
    match ns, hn, e, hw with
    | [r0, r1, r2, r3, r4, r5, r6, r7], _, e, hw =>
      have e : [a1, a2, a3, a4, a5, a6, a7, a8] = [.int .u64 r0, .int .u64 r1, .int .u64 r2, .int .u64 r3, .int .u64 r4, .int .u64 r5, .int .u64 r6, .int .u64 r7] := e
      simp only [List.cons.injEq, and_true] at e
      obtain ⟨rfl, rfl, rfl, rfl, rfl, rfl, rfl, rfl⟩ := e
      refine ⟨⟨inp, fun j => if j = 0 then r0 else if j = 1 then r1 else if j = 2 then r2 else if j = 3 then r3 else if j = 4 then r4 else if j = 5 then r5 else if j = 6 then r6 else r7, mem⟩, ⟨fun j => ?_, i1, m1⟩, fun ρ => ?_⟩
      · have u0 := u64_of_wf hw.1
        have u1 := u64_of_wf hw.2.1
        have u2 := u64_of_wf hw.2.2.1
        have u3 := u64_of_wf hw.2.2.2.1
        have u4 := u64_of_wf hw.2.2.2.2.1
        have u5 := u64_of_wf hw.2.2.2.2.2.1
        have u6 := u64_of_wf hw.2.2.2.2.2.2.1
        have u7 := u64_of_wf hw.2.2.2.2.2.2.2.1
        show U64 (if j = 0 then r0 else if j = 1 then r1 else if j = 2 then r2 else if j = 3 then r3 else if j = 4 then r4 else if j = 5 then r5 else if j = 6 then r6 else r7)
        repeat' (first | assumption | split)
      · exact .agg _ _ (.cons (i2 ρ) (.cons (.v _) (.cons (.v _) (.cons (.v _) (.cons (.v _) (.cons (.v _) (.cons (.v _) (.cons (.v _) (.cons (.v _) (.cons (m2 ρ) .nil))))))))))
end
theorem lHol_true (l : List Nd) (e : Ev) (hn : ∀ j, U64 (l.getD j default).n) (he : EvOk e) : Ok Tryd.prog 3 [.ro 6 l.length (l.map eNd), .agg (cat [.ro 1 e.inp.length (e.inp.map eb)] (cat (arrA aU 8 e.regs) [.ro 1 e.mem.length (e.mem.map eb)]))] (look []) (.v (.bool true)) (postOf [] []) := by
  have := lHol_ok l e hn he.regs
  rwa [lHol_t hn he] at this
theorem lDec_true (l : List Nd) (e : Ev) (hn : ∀ j, U64 (l.getD j default).n) (he : EvOk e) : Ok Tryd.prog 4 [.ro 6 l.length (l.map eNd), .agg (cat [.ro 1 e.inp.length (e.inp.map eb)] (cat (arrA aU 8 e.regs) [.ro 1 e.mem.length (e.mem.map eb)]))] (look []) (.v (.bool true)) (postOf [] []) := by
  have := lDec_ok l e hn he.regs
  rwa [lDec_t hn he] at this
end Go.Proofs.YtahobmjchppciaaDoor.Sx.M5
/- The row's condition: the library's table lies in its variable; a world in which it does. -/
open Go Go.Proofs Go.RowKit Go.ChangeShapes Go.WideShapes
namespace Go.Proofs.YtahobmjchppciaaDoor.Sx.M5
set_option linter.unusedVariables false
set_option linter.unusedSimpArgs false
theorem gTab : Tryd.prog.globalNamed "math/bits.deBruijn64tab" = some 0 := by kernel_rfl
theorem gTabType : (Tryd.prog.globals[0]?).map (·.type) = some 134 := by kernel_rfl
theorem laid_tab : YtahobmjchppciaaDoor.Rows.laid_math_bits_deBruijn64tab = (Lib.tabData .u8 (Lib.deBruijn64tab.map fun n : Nat => (n : Int)) : DataW Unit) := by kernel_rfl
theorem tab_of_laid {W : World} (h : laidMetH Tryd.prog [("math/bits.deBruijn64tab", YtahobmjchppciaaDoor.Rows.laid_math_bits_deBruijn64tab)] W) : GG (fun b => W.heap[b]?) := by
  have h1 : laidMet Tryd.prog [("math/bits.deBruijn64tab", YtahobmjchppciaaDoor.Rows.laid_math_bits_deBruijn64tab)] W := (laidMetH_iff.1 h).1
  obtain ⟨g, t, cs, fuel, p, e1, e2, e3, e4⟩ := Lib.laidMet.reads h1 (.head _)
  obtain rfl := Option.some.inj (gTab.symm.trans e1)
  obtain rfl := Option.some.inj (gTabType.symm.trans e2)
  rw [laid_tab] at e4
  have hc := Lib.cells_of_tab Tryd.underlying134 Tryd.underlying5 (by kernel_rfl) (by kernel_rfl) e4
  unfold World.var? at e3
  rw [gTab] at e3
  simp only [Option.bind_some] at e3
  cases ho : W.heap[0]? with
  | none => rw [ho] at e3; cases e3
  | some o =>
    rw [ho] at e3
    cases o with
    | cells cs' t' f' =>
      obtain rfl := Option.some.inj e3
      refine ⟨_, _, _, ho, fun j hj => ?_⟩
      rw [← Array.getElem?_toList, hc]
      simp only [List.getElem?_map]
      have hl : Lib.deBruijn64tab.length = 64 := by decide
      rw [List.getElem?_eq_getElem (by omega), List.getD_eq_getElem?_getD, List.getElem?_eq_getElem (by omega)]
      rfl
    | _ => cases e3
noncomputable def laidWorld (os : Os) : World :=
  let w0 := World.holding Tryd.prog os ⟨#[], #[], []⟩
  { w0 with heap := w0.heap.modify 0 fun
      | .cells _ t frozen => .cells (Lib.deBruijn64tab.map fun z : Nat => Value.int .u8 (z : Int)).toArray t frozen
      | o => o }
theorem laid_met (os : Os) (args : Array Value) : laidMetH Tryd.prog [("math/bits.deBruijn64tab", YtahobmjchppciaaDoor.Rows.laid_math_bits_deBruijn64tab)] ((laidWorld os).forCall (fun _ _ => 0) ⟨#[], args, []⟩).memory :=
  laidMetH_of_parts (LaidIn.of_run [0] 8 (by kernel_rfl) (by kernel_rfl) (by kernel_rfl) (by kernel_rfl)).met (by kernel_rfl)
end Go.Proofs.YtahobmjchppciaaDoor.Sx.M5
