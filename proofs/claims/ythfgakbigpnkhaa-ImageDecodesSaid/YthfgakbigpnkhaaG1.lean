/- Where an image doesn't flow: both sides say the same. -/
import Derived.Test.YthfgakbigpnkhaaF3
open Go Go.Proofs Go.RowKit
namespace Go.Proofs.Ythfgakbigpnkhaa.Sx.C3
set_option linter.unusedVariables false
set_option linter.unusedSimpArgs false
/-- f is the last of l's numbers that is at most x; -1: none is. -/
def IsFun (l : List Int) (x f : Int) : Prop := (f = -1 ∧ ∀ j : Nat, j < l.length → x < l.getD j 0) ∨ (0 ≤ f ∧ f < l.length ∧ l.getD f.toNat 0 ≤ x ∧ ∀ j : Nat, f < j → j < l.length → x < l.getD j 0)
theorem IsFun.uniq {l : List Int} {x f g : Int} (h : IsFun l x f) (k : IsFun l x g) : f = g := by
  rcases h with ⟨h1, h2⟩ | ⟨h1, h2, h3, h4⟩
  · rcases k with ⟨k1, k2⟩ | ⟨k1, k2, k3, k4⟩
    · omega
    · have := h2 g.toNat (by omega); omega
  · rcases k with ⟨k1, k2⟩ | ⟨k1, k2, k3, k4⟩
    · have := k2 f.toNat (by omega); omega
    · by_cases c1 : f < g
      · have := h4 g.toNat (by omega) (by omega); omega
      · by_cases c2 : g < f
        · have := k4 f.toNat (by omega) (by omega); omega
        · omega
theorem fun_l0_is {p : Img} {x : Int} : ∀ (m : Nat) (n : Int), -1 ≤ n → n < p.funs.length → (∀ j : Nat, n < j → j < p.funs.length → x < p.funs.getD j 0) → (n + 1).toNat < m → IsFun p.funs x (fun_l0 p x m n) := by
  intro m
  induction m with
  | zero => intros; rename_i hm; exact absurd hm (Nat.not_lt_zero _)
  | succ m ih =>
    intro n h1 h2 h3 hm
    rw [fun_l0]
    by_cases hn : n ≥ 0
    · rw [decide_eq_true hn]
      simp only [cond_true]
      by_cases hx : p.funs.getD n.toNat 0 > x
      · rw [decide_eq_true hx]
        refine ih (n - 1) (by omega) (by omega) (fun j hj hl => ?_) (by omega)
        by_cases e : (j : Int) = n
        · have : j = n.toNat := by omega
          subst this; exact hx
        · exact h3 j (by omega) hl
      · rw [decide_eq_false hx]
        exact .inr ⟨hn, h2, by show p.funs.getD n.toNat 0 ≤ x; omega, h3⟩
    · rw [decide_eq_false hn]
      exact .inl ⟨by show n = -1; omega, fun j hl => h3 j (by omega) hl⟩
theorem rfun_l0_is {p : Img} {x : Int} : ∀ (m : Nat) (f : Int) (i : Nat), i ≤ p.funs.length → ((f = -1 ∧ ∀ j : Nat, j < i → x < p.funs.getD j 0) ∨ (0 ≤ f ∧ f < i ∧ p.funs.getD f.toNat 0 ≤ x ∧ ∀ j : Nat, f < j → j < i → x < p.funs.getD j 0)) → p.funs.length - i < m → IsFun p.funs x (rfun_l0 p x m f i) := by
  intro m
  induction m with
  | zero => intros; rename_i hm; exact absurd hm (Nat.not_lt_zero _)
  | succ m ih =>
    intro f i h1 h2 hm
    rw [rfun_l0]
    by_cases hi : (i : Int) < p.funs.length
    · rw [decide_eq_true hi, Int.toNat_natCast]
      simp only [cond_true]
      by_cases hx : p.funs.getD i 0 ≤ x
      · rw [decide_eq_true hx]
        exact ih i (i + 1) (by omega) (.inr ⟨by omega, by omega, by rw [Int.toNat_natCast]; exact hx, fun j h3 h4 => by omega⟩) (by omega)
      · rw [decide_eq_false hx]
        refine ih f (i + 1) (by omega) ?_ (by omega)
        rcases h2 with ⟨h2, h3⟩ | ⟨h2, h3, h4, h5⟩
        · refine .inl ⟨h2, fun j hj => ?_⟩
          by_cases e : j = i
          · subst e; omega
          · exact h3 j (by omega)
        · refine .inr ⟨h2, by omega, h4, fun j h6 h7 => ?_⟩
          by_cases e : j = i
          · subst e; omega
          · exact h5 j h6 (by omega)
    · rw [decide_eq_false hi]
      have e : i = p.funs.length := by omega
      subst e
      exact h2
theorem fun_is {p : Img} {x : Int} (h0 : 0 ≤ x) (h1 : x < p.code.length) : IsFun p.funs x (fun_s p x) := by
  unfold fun_s
  rw [decide_eq_false (by omega), decide_eq_false (by omega)]
  exact fun_l0_is _ _ (by omega) (by omega) (fun j h2 h3 => by omega) (Nat.lt_succ_self _)
theorem rfun_eq (p : Img) (x : Int) : rfun_s p x = fun_s p x := by
  by_cases h : 0 ≤ x ∧ x < p.code.length
  · have r : IsFun p.funs x (rfun_s p x) := by
      unfold rfun_s
      rw [decide_eq_false (by omega), decide_eq_false (by omega)]
      exact rfun_l0_is _ (-1) 0 (Nat.zero_le _) (.inl ⟨rfl, fun j hj => by omega⟩) (Nat.lt_succ_self _)
    exact r.uniq (fun_is h.1 h.2)
  · unfold rfun_s fun_s
    by_cases c : x < 0
    · rw [decide_eq_true c]; rfl
    · rw [decide_eq_false c, decide_eq_true (by omega)]; rfl
theorem Inc.lt {l : List Int} (h : Inc l) : ∀ (d i : Nat), i + (d + 1) < l.length → l.getD i 0 < l.getD (i + (d + 1)) 0 := by
  intro d
  induction d with
  | zero => intro i hi; exact h i hi
  | succ d ih =>
    intro i hi
    have h1 := ih i (by omega)
    have h2 := h (i + (d + 1)) (by omega)
    rw [show i + (d + 1 + 1) = i + (d + 1) + 1 by omega]
    omega
theorem Inc.le {l : List Int} (h : Inc l) {i j : Nat} (hij : i ≤ j) (hj : j < l.length) : l.getD i 0 ≤ l.getD j 0 := by
  by_cases e : i = j
  · rw [e]; exact Int.le_refl _
  · have := h.lt (j - i - 1) i (by omega)
    rw [show i + (j - i - 1 + 1) = j by omega] at this
    omega
/-- What is so of an image whose counts are right. -/
structure Rt (p : Img) : Prop where
  small : 0 < p.funs.length ∧ p.funs.length ≤ 16
  first : p.funs.getD 0 0 = 0
  inc : Inc p.funs
  last : p.funs.getD (p.funs.length - 1) 0 < p.code.length
  code : p.code.length ≤ 256
  imm : ∀ j, j < p.code.length → 0 ≤ (p.code.getD j default).imm ∧ (p.code.getD j default).imm < 18446744073709551616
theorem ends_is {p : Img} (r : Rt p) {x : Int} (h0 : 0 ≤ x) (h1 : x < p.code.length) :
    0 ≤ (ends_s p (fun_s p x)).1 ∧ (ends_s p (fun_s p x)).1 ≤ x ∧ x < (ends_s p (fun_s p x)).2 ∧ (ends_s p (fun_s p x)).2 ≤ p.code.length ∧ ∀ y : Int, 0 ≤ y → y < p.code.length → (fun_s p y = fun_s p x ↔ (ends_s p (fun_s p x)).1 ≤ y ∧ y < (ends_s p (fun_s p x)).2) := by
  have F := fun_is h0 h1
  have rf := r.first
  rcases F with ⟨_, h2⟩ | ⟨f0, f1, f2, f3⟩
  · have := h2 0 r.small.1; omega
  obtain ⟨f, hf⟩ : ∃ f : Nat, fun_s p x = f := ⟨(fun_s p x).toNat, by omega⟩
  rw [hf] at f0 f1 f2 f3 ⊢
  rw [Int.toNat_natCast] at f2
  have lo0 : 0 ≤ p.funs.getD f 0 := by have := r.inc.le (Nat.zero_le f) (by omega); omega
  have key : ∀ y : Int, 0 ≤ y → y < p.code.length → (fun_s p y = f ↔ p.funs.getD f 0 ≤ y ∧ ∀ j : Nat, f < j → j < p.funs.length → y < p.funs.getD j 0) := by
    intro y y0 y1
    have Y := fun_is y0 y1
    constructor
    · intro e
      rw [e] at Y
      rcases Y with ⟨h, _⟩ | ⟨_, _, h3, h4⟩
      · omega
      · rw [Int.toNat_natCast] at h3
        exact ⟨h3, fun j hj hl => h4 j (by omega) hl⟩
    · rintro ⟨h3, h4⟩
      exact Y.uniq (.inr ⟨by omega, by omega, by rw [Int.toNat_natCast]; exact h3, fun j hj hl => h4 j (by omega) hl⟩)
  unfold ends_s
  by_cases c : (f : Int) + 1 < p.funs.length
  · rw [decide_eq_true c, Int.toNat_natCast, show ((f : Int) + 1).toNat = f + 1 by omega]
    simp only [cond_true]
    have hh := r.inc.le (show f + 1 ≤ p.funs.length - 1 by omega) (by omega)
    have hl := r.last
    refine ⟨lo0, f2, f3 (f + 1) (by omega) (by omega), by omega, fun y y0 y1 => ?_⟩
    rw [key y y0 y1]
    refine ⟨fun h => ⟨h.1, h.2 (f + 1) (by omega) (by omega)⟩, fun h => ⟨h.1, fun j hj hjl => ?_⟩⟩
    have := r.inc.le (show f + 1 ≤ j by omega) hjl
    omega
  · rw [decide_eq_false c, Int.toNat_natCast]
    simp only [cond_false]
    refine ⟨lo0, f2, h1, Int.le_refl _, fun y y0 y1 => ?_⟩
    rw [key y y0 y1]
    exact ⟨fun h => ⟨h.1, y1⟩, fun h => ⟨h.1, fun j hj hjl => by omega⟩⟩
theorem goes_eq (n : Int) : goes2_s n = goes_s n := by
  unfold goes2_s goes_s
  rw [known_iff]
  by_cases h : 0 ≤ n ∧ n < 26
  · rw [decide_eq_true (show n ≥ 0 by omega), decide_eq_true (show n ≤ 25 by omega), decide_eq_true h]
    simp only [cond_true, bne]
    cases (n == (0 : Int)) <;> cases (n == (21 : Int)) <;> cases (n == (24 : Int)) <;> cases (n == (25 : Int)) <;> rfl
  · rw [decide_eq_false h]
    have e : (bif n == (0 : Int) then false else (bif n == (21 : Int) then false else (bif n == (24 : Int) then false else (bif n == (25 : Int) then false else false)))) = false := by
      cases (n == (0 : Int)) <;> cases (n == (21 : Int)) <;> cases (n == (24 : Int)) <;> cases (n == (25 : Int)) <;> rfl
    rw [e]
    by_cases c : n ≥ 0
    · rw [decide_eq_true c, decide_eq_false (by omega)]; rfl
    · rw [decide_eq_false c]; rfl
theorem wu64 {n : Int} (h0 : 0 ≤ n) (h1 : n < 18446744073709551616) : IntKind.u64.wrap n = n := w64 h0 h1
theorem stray_step {p : Img} (r : Rt p) {i : Nat} (hi : i < p.code.length) (m : Nat) : rstray_l0 p (m + 1) i = bif strayf_s p i then (i : Int) else rstray_l0 p m (i + 1) := by
  obtain ⟨e0, e1, e2, e3, e4⟩ := ends_is r (x := i) (by omega) (by omega)
  have him := r.imm i hi
  have hc := r.code
  have hs := r.small
  rw [rstray_l0, decide_eq_true (show (i : Int) < p.code.length by omega)]
  simp only [cond_true]
  unfold strayf_s
  rw [Int.toNat_natCast]
  simp only [rfun_eq, goes_eq]
  obtain ⟨q, hq⟩ : ∃ q, p.code.getD i default = q := ⟨_, rfl⟩
  obtain ⟨lo, hlo⟩ : ∃ q, (ends_s p (fun_s p i)).1 = q := ⟨_, rfl⟩
  obtain ⟨hi', hhi⟩ : ∃ q, (ends_s p (fun_s p i)).2 = q := ⟨_, rfl⟩
  rw [hlo, hhi] at e4
  rw [hlo] at e0 e1
  rw [hhi] at e2 e3
  rw [hq] at him
  rw [hq, hlo, hhi, wu64 (n := lo) e0 (by omega), wu64 (n := hi') (by omega) (by omega), wu64 (n := (p.code.length : Int)) (by omega) (by omega), wu64 (n := (p.funs.length : Int)) (by omega) (by omega)]
  obtain ⟨Z, hZ⟩ : ∃ z, rstray_l0 p m ((i : Int) + 1) = z := ⟨_, rfl⟩
  rw [hZ]
  -- the ways of what goes on
  have hA : ∀ X : Int, (bif ((i : Int) + 1) == (p.code.length : Int) then (i : Int) else (bif (fun_s p ((i : Int) + 1)) != (fun_s p i) then (i : Int) else X)) = bif decide ((i : Int) + 1 ≥ hi') then (i : Int) else X := by
    intro X
    by_cases c : ((i : Int) + 1) = p.code.length
    · rw [show (((i : Int) + 1) == (p.code.length : Int)) = true by simpa using c, decide_eq_true (by omega)]; rfl
    · rw [show (((i : Int) + 1) == (p.code.length : Int)) = false by simpa using c]
      simp only [cond_false]
      have k := e4 ((i : Int) + 1) (by omega) (by omega)
      by_cases c2 : (i : Int) + 1 ≥ hi'
      · rw [decide_eq_true c2]
        have : ¬ fun_s p ((i : Int) + 1) = fun_s p i := fun e => by have := (k.1 e).2; omega
        rw [show (fun_s p ((i : Int) + 1) != fun_s p i) = true by simpa using this]
      · rw [decide_eq_false c2]
        have : fun_s p ((i : Int) + 1) = fun_s p i := k.2 ⟨by omega, by omega⟩
        rw [show (fun_s p ((i : Int) + 1) != fun_s p i) = false by simpa using this]
  have hB : ∀ X : Int, (bif decide (q.imm ≥ (p.code.length : Int)) then (i : Int) else (bif (fun_s p (IntKind.i64.wrap q.imm)) != (fun_s p i) then (i : Int) else X)) = bif (bif decide (q.imm < lo) then true else decide (q.imm ≥ hi')) then (i : Int) else X := by
    intro X
    by_cases c : q.imm ≥ (p.code.length : Int)
    · rw [decide_eq_true c, decide_eq_false (show ¬ q.imm < lo by omega), decide_eq_true (show q.imm ≥ hi' by omega)]; rfl
    · rw [decide_eq_false c, wrap_i64 him.1 (by omega)]
      simp only [cond_false]
      have k := e4 q.imm him.1 (by omega)
      by_cases c2 : lo ≤ q.imm ∧ q.imm < hi'
      · rw [show (fun_s p q.imm != fun_s p i) = false by simpa using k.2 c2, decide_eq_false (show ¬ q.imm < lo by omega), decide_eq_false (show ¬ q.imm ≥ hi' by omega)]; rfl
      · have : ¬ fun_s p q.imm = fun_s p i := fun e => c2 (k.1 e)
        rw [show (fun_s p q.imm != fun_s p i) = true by simpa using this]
        by_cases c3 : q.imm < lo
        · rw [decide_eq_true c3]; rfl
        · rw [decide_eq_false c3, decide_eq_true (show q.imm ≥ hi' by omega)]; rfl
  have hK : (bif q.op == (21 : Int) then (bif decide (q.imm ≥ (p.code.length : Int)) then (i : Int) else (bif (fun_s p (IntKind.i64.wrap q.imm)) != (fun_s p i) then (i : Int) else (bif q.op == (23 : Int) then (bif decide (q.imm ≥ (p.funs.length : Int)) then (i : Int) else Z) else Z))) else (bif q.op == (22 : Int) then (bif decide (q.imm ≥ (p.code.length : Int)) then (i : Int) else (bif (fun_s p (IntKind.i64.wrap q.imm)) != (fun_s p i) then (i : Int) else (bif q.op == (23 : Int) then (bif decide (q.imm ≥ (p.funs.length : Int)) then (i : Int) else Z) else Z))) else (bif q.op == (23 : Int) then (bif decide (q.imm ≥ (p.funs.length : Int)) then (i : Int) else Z) else Z)))
      = bif (bif q.op == (21 : Int) then (bif decide (q.imm < lo) then true else decide (q.imm ≥ hi')) else (bif q.op == (22 : Int) then (bif decide (q.imm < lo) then true else decide (q.imm ≥ hi')) else (bif q.op == (23 : Int) then decide (q.imm ≥ (p.funs.length : Int)) else false))) then (i : Int) else Z := by
    rw [hB]
    by_cases o1 : q.op = 21
    · rw [o1]; rfl
    · rw [show (q.op == (21 : Int)) = false by simpa using o1]
      simp only [cond_false]
      by_cases o2 : q.op = 22
      · rw [o2]; rfl
      · rw [show (q.op == (22 : Int)) = false by simpa using o2]
        simp only [cond_false]
        cases (q.op == (23 : Int)) <;> rfl
  rw [hA, hK]
  cases goes_s q.op with
  | false => rfl
  | true =>
    simp only [cond_true]
    cases decide ((i : Int) + 1 ≥ hi') <;> rfl
theorem stray_eq {p : Img} (r : Rt p) : rstray_s p = stray_s p := by
  have hp := places_eq p
  have key : ∀ (m i : Nat), p.code.length - i < m → rstray_l0 p m i = idx_l0 p (places_s p) m i := by
    intro m
    induction m with
    | zero => intro i hm; exact absurd hm (Nat.not_lt_zero _)
    | succ m ih =>
      intro i hm
      by_cases h : i < p.code.length
      · rw [stray_step r h, idx_l0, hp.1, decide_eq_true (show (i : Int) < p.code.length by omega), Int.toNat_natCast, hp.2 i h]
        simp only [cond_true]
        rw [show ((i : Int) + 1) = ((i + 1 : Nat) : Int) from rfl, ih (i + 1) (by omega)]
      · rw [rstray_l0, idx_l0, hp.1, decide_eq_false (show ¬ (i : Int) < p.code.length by omega)]; rfl
  unfold rstray_s stray_s idx_s
  rw [hp.1]
  exact key _ 0 (Nat.lt_succ_self _)
end Go.Proofs.Ythfgakbigpnkhaa.Sx.C3
