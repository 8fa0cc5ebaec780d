/- What is right by the document is encoded by the program. -/
import Derived.Test.YteolbecihipcaaaM20
open Go Go.Proofs Go.RowKit
namespace Go.Proofs.Yteolbecihipcaaa.Sx.M5
set_option linter.unusedVariables false
set_option linter.unusedSimpArgs false
theorem ref_table : ∀ j : _root_.Fin 26, in2_s (has_s (j.val : Int)) 97 = hA (j.val : Int) ∧ in2_s (has_s (j.val : Int)) 98 = hB (j.val : Int) ∧ in2_s (has_s (j.val : Int)) 119 = hW (j.val : Int) ∧ (hW (j.val : Int) = false → in2_s (has_s (j.val : Int)) 99 = hCW (j.val : Int)) ∧ in2_s (has_s (j.val : Int)) 105 = hI (j.val : Int) := by decide +kernel
theorem reg2 (s : ByteArray) (c n : Int) : register2_s s c n = okR (in2_s s c) n := by
  unfold register2_s okR register_s
  cases in2_s s c with
  | false => rfl
  | true =>
    simp only [cond_true]
    cases decide (n ≥ (0 : Int)) with
    | false => rfl
    | true =>
      simp only [cond_true]
      rw [decide_eq_decide]; omega
/-- What the document says of it: 0: no such operation; -1: right. -/
def W2 (i : Ins) : Int := bif decide (0 ≤ i.op ∧ i.op < 26) then (bif W i == 0 then -1 else W i) else 0
theorem rwrong_eq (i : Ins) : rwrong_s i = W2 i := by
  unfold rwrong_s W2
  by_cases h : 0 ≤ i.op ∧ i.op < 26
  · rw [decide_eq_false (by omega), decide_eq_false (by omega), decide_eq_true h]
    simp only [cond_true, cond_false]
    have e : ((i.op.toNat : Nat) : Int) = i.op := by omega
    have ht := ref_table ⟨i.op.toNat, by omega⟩
    simp only [e] at ht
    obtain ⟨tA, tB, tW, tC, tI⟩ := ht
    rw [reg2, reg2, reg2, tA, tB, tW, tI]
    unfold W
    cases eA : okR (hA i.op) i.a with
    | false => rfl
    | true =>
    cases eB : okR (hB i.op) i.b with
    | false => rfl
    | true =>
    simp only [Bool.not_true, cond_false, cond_true]
    have hend : (bif !hI i.op then (bif i.imm != (0 : Int) then (4 : Int) else -1) else -1) = (bif (bif !hI i.op && i.imm != 0 then (4 : Int) else 0) == 0 then -1 else (bif !hI i.op && i.imm != 0 then 4 else 0)) := by
      cases hI i.op <;> cases (i.imm != (0 : Int)) <;> rfl
    unfold okC
    cases eW : hW i.op with
    | true =>
      simp only [cond_true]
      unfold wideB
      cases e1 : (i.c == (1 : Int)) with
      | true =>
        rw [show (i.c != (1 : Int)) = false by simp [bne, e1]]
        simp only [cond_false, Bool.true_or, cond_true]; exact hend
      | false =>
      rw [show (i.c != (1 : Int)) = true by simp [bne, e1]]
      cases e2 : (i.c == (2 : Int)) with
      | true =>
        rw [show (i.c != (2 : Int)) = false by simp [bne, e2]]
        simp only [cond_false, Bool.true_or, Bool.false_or, cond_true]; exact hend
      | false =>
      rw [show (i.c != (2 : Int)) = true by simp [bne, e2]]
      cases e4 : (i.c == (4 : Int)) with
      | true =>
        rw [show (i.c != (4 : Int)) = false by simp [bne, e4]]
        simp only [cond_false, Bool.true_or, Bool.false_or, cond_true]; exact hend
      | false =>
      rw [show (i.c != (4 : Int)) = true by simp [bne, e4]]
      cases e8 : (i.c == (8 : Int)) with
      | true =>
        rw [show (i.c != (8 : Int)) = false by simp [bne, e8]]
        simp only [cond_false, Bool.false_or, cond_true]; exact hend
      | false =>
        rw [show (i.c != (8 : Int)) = true by simp [bne, e8]]
        rfl
    | false =>
      simp only [cond_false]
      rw [tC eW]
      cases eC : okR (hCW i.op) i.c with
      | false => rfl
      | true =>
        simp only [Bool.not_true, cond_false, cond_true]; exact hend
  · rw [decide_eq_false h]
    by_cases h0 : i.op < 0
    · rw [decide_eq_true h0]; rfl
    · rw [decide_eq_false h0, decide_eq_true (by omega)]; rfl

def be (n : Int) : List Int := [n / 72057594037927936 % 256, n / 281474976710656 % 256, n / 1099511627776 % 256, n / 4294967296 % 256, n / 16777216 % 256, n / 65536 % 256, n / 256 % 256, n % 256]
/-- What is put. -/
def putS (i : Ins) : List Int × Int :=
  bif known_s i.op then (bif W i == 0 then ([i.op % 256, i.a % 256, i.b % 256, i.c % 256] ++ be i.imm, 0) else ([], 5)) else ([], 4)
theorem wu8 (x : Int) : IntKind.u8.wrap x = x % 256 := by simp [IntKind.wrap, IntKind.bits, IntKind.signed]
theorem put_eq (i : Ins) : put_s i = putS i := by
  unfold put_s putS
  cases hk : known_s i.op with
  | false => rfl
  | true =>
    have := known_t hk
    rw [wrong_eq this.1 this.2]
    simp only [Bool.not_true, cond_false, cond_true]
    cases hw : (W i == (0 : Int)) with
    | false => rw [show (W i != (0 : Int)) = true by simp [bne, hw]]; rfl
    | true =>
      rw [show (W i != (0 : Int)) = false by simp [bne, hw]]
      simp only [cond_false, cond_true]
      simp [put_l0, wu8, be, Int.fdiv_eq_ediv_of_nonneg]
theorem rput_eq {i : Ins} (h0 : 0 ≤ i.imm) (h1 : i.imm < 18446744073709551616) : rput_s i = putS i := by
  unfold rput_s putS
  rw [rwrong_eq, known_iff]
  unfold W2
  cases hk : decide (0 ≤ i.op ∧ i.op < 26) with
  | false => rfl
  | true =>
    simp only [cond_true]
    have hr := W_range i
    cases hw : (W i == (0 : Int)) with
    | false =>
      have hne : W i ≠ 0 := by simpa using hw
      simp only [cond_false]
      rw [hw, decide_eq_true (by omega)]; rfl
    | true =>
      simp only [cond_true]
      have st : ∀ x : Int, 0 ≤ x → x < 18446744073709551616 → IntKind.u8.wrap (Int.tmod x 256) = x % 256 ∧ IntKind.u64.wrap (Int.tdiv x 256) = x / 256 := by
        intro x hx0 hx1
        rw [wu8, Int.tmod_eq_emod_of_nonneg hx0, Int.tdiv_eq_ediv_of_nonneg hx0]
        refine ⟨by omega, ?_⟩
        simp [IntKind.wrap, IntKind.bits, IntKind.signed]
        omega
      have s0 := st i.imm h0 h1
      have s1 := st (i.imm / 256) (by omega) (by omega)
      have s2 := st (i.imm / 256 / 256) (by omega) (by omega)
      have s3 := st (i.imm / 256 / 256 / 256) (by omega) (by omega)
      have s4 := st (i.imm / 256 / 256 / 256 / 256) (by omega) (by omega)
      have s5 := st (i.imm / 256 / 256 / 256 / 256 / 256) (by omega) (by omega)
      have s6 := st (i.imm / 256 / 256 / 256 / 256 / 256 / 256) (by omega) (by omega)
      have s7 := st (i.imm / 256 / 256 / 256 / 256 / 256 / 256 / 256) (by omega) (by omega)
      rw [show ((-1 : Int) == 0) = false from rfl, decide_eq_false (by omega)]
      simp only [cond_false]
      simp [rput_l0, s0, s1, s2, s3, s4, s5, s6, s7, wu8, be, List.replicate]
      omega
theorem wrap_i64_id {x : Int} (h : -9223372036854775808 ≤ x ∧ x < 9223372036854775808) : IntKind.i64.wrap x = x := by rw [IntKind.wrap_i64]; omega
theorem wrap_i64' {x : Int} (h0 : 0 ≤ x) (h1 : x < 9223372036854775808) : IntKind.i64.wrap x = x := wrap_i64_id ⟨by omega, h1⟩
theorem w64 {n : Int} (h0 : 0 ≤ n) (h1 : n < 18446744073709551616) : IntKind.u64.wrap n = n := by rw [wrap_u64]; omega
/-- f is the last of l's numbers that is at most x; -1: none is. -/
def IsFun (l : List Int) (x f : Int) : Prop := (f = -1 ∧ ∀ j : Nat, j < l.length → x < l.getD j 0) ∨ (0 ≤ f ∧ f < l.length ∧ l.getD f.toNat 0 ≤ x ∧ ∀ j : Nat, f < j → j < l.length → x < l.getD j 0)
theorem IsFun.uniq {l : List Int} {x f g : Int} (h : IsFun l x f) (k : IsFun l x g) : f = g := by
  rcases h with ⟨h1, h2⟩ | ⟨h1, h2, h3, h4⟩
  · rcases k with ⟨k1, k2⟩ | ⟨k1, k2, k3, k4⟩
    · omega
    · have := h2 g.toNat (by omega); omega
  · rcases k with ⟨k1, k2⟩ | ⟨k1, k2, k3, k4⟩
    · have := k2 f.toNat (by omega); omega
    · by_cases c1 : f < g
      · have := h4 g.toNat (by omega) (by omega); omega
      · by_cases c2 : g < f
        · have := k4 f.toNat (by omega) (by omega); omega
        · omega
theorem fun_l0_is {p : Img} {x : Int} : ∀ (m : Nat) (n : Int), -1 ≤ n → n < p.funs.length → (∀ j : Nat, n < j → j < p.funs.length → x < p.funs.getD j 0) → (n + 1).toNat < m → IsFun p.funs x (fun_l0 p x m n) := by
  intro m
  induction m with
  | zero => intros; rename_i hm; exact absurd hm (Nat.not_lt_zero _)
  | succ m ih =>
    intro n h1 h2 h3 hm
    rw [fun_l0]
    by_cases hn : n ≥ 0
    · rw [decide_eq_true hn]
      simp only [cond_true]
      by_cases hx : p.funs.getD n.toNat 0 > x
      · rw [decide_eq_true hx]
        refine ih (n - 1) (by omega) (by omega) (fun j hj hl => ?_) (by omega)
        by_cases e : (j : Int) = n
        · have : j = n.toNat := by omega
          subst this; exact hx
        · exact h3 j (by omega) hl
      · rw [decide_eq_false hx]
        exact .inr ⟨hn, h2, by show p.funs.getD n.toNat 0 ≤ x; omega, h3⟩
    · rw [decide_eq_false hn]
      exact .inl ⟨by show n = -1; omega, fun j hl => h3 j (by omega) hl⟩
theorem rfun_l0_is {p : Img} {x : Int} : ∀ (m : Nat) (f : Int) (i : Nat), i ≤ p.funs.length → ((f = -1 ∧ ∀ j : Nat, j < i → x < p.funs.getD j 0) ∨ (0 ≤ f ∧ f < i ∧ p.funs.getD f.toNat 0 ≤ x ∧ ∀ j : Nat, f < j → j < i → x < p.funs.getD j 0)) → p.funs.length - i < m → IsFun p.funs x (rfun_l0 p x m f i) := by
  intro m
  induction m with
  | zero => intros; rename_i hm; exact absurd hm (Nat.not_lt_zero _)
  | succ m ih =>
    intro f i h1 h2 hm
    rw [rfun_l0]
    by_cases hi : (i : Int) < p.funs.length
    · rw [decide_eq_true hi, Int.toNat_natCast]
      simp only [cond_true]
      by_cases hx : p.funs.getD i 0 ≤ x
      · rw [decide_eq_true hx]
        exact ih i (i + 1) (by omega) (.inr ⟨by omega, by omega, by rw [Int.toNat_natCast]; exact hx, fun j h3 h4 => by omega⟩) (by omega)
      · rw [decide_eq_false hx]
        refine ih f (i + 1) (by omega) ?_ (by omega)
        rcases h2 with ⟨h2, h3⟩ | ⟨h2, h3, h4, h5⟩
        · refine .inl ⟨h2, fun j hj => ?_⟩
          by_cases e : j = i
          · subst e; omega
          · exact h3 j (by omega)
        · refine .inr ⟨h2, by omega, h4, fun j h6 h7 => ?_⟩
          by_cases e : j = i
          · subst e; omega
          · exact h5 j h6 (by omega)
    · rw [decide_eq_false hi]
      have e : i = p.funs.length := by omega
      subst e
      exact h2
theorem fun_is {p : Img} {x : Int} (h0 : 0 ≤ x) (h1 : x < p.code.length) : IsFun p.funs x (fun_s p x) := by
  unfold fun_s
  rw [decide_eq_false (by omega), decide_eq_false (by omega)]
  exact fun_l0_is _ _ (by omega) (by omega) (fun j h2 h3 => by omega) (Nat.lt_succ_self _)
theorem rfun_eq (p : Img) (x : Int) : rfun_s p x = fun_s p x := by
  by_cases h : 0 ≤ x ∧ x < p.code.length
  · have r : IsFun p.funs x (rfun_s p x) := by
      unfold rfun_s
      rw [decide_eq_false (by omega), decide_eq_false (by omega)]
      exact rfun_l0_is _ (-1) 0 (Nat.zero_le _) (.inl ⟨rfl, fun j hj => by omega⟩) (Nat.lt_succ_self _)
    exact r.uniq (fun_is h.1 h.2)
  · unfold rfun_s fun_s
    by_cases c : x < 0
    · rw [decide_eq_true c]; rfl
    · rw [decide_eq_false c, decide_eq_true (by omega)]; rfl
theorem Inc.lt {l : List Int} (h : Inc l) : ∀ (d i : Nat), i + (d + 1) < l.length → l.getD i 0 < l.getD (i + (d + 1)) 0 := by
  intro d
  induction d with
  | zero => intro i hi; exact h i hi
  | succ d ih =>
    intro i hi
    have h1 := ih i (by omega)
    have h2 := h (i + (d + 1)) (by omega)
    rw [show i + (d + 1 + 1) = i + (d + 1) + 1 by omega]
    omega
theorem Inc.le {l : List Int} (h : Inc l) {i j : Nat} (hij : i ≤ j) (hj : j < l.length) : l.getD i 0 ≤ l.getD j 0 := by
  by_cases e : i = j
  · rw [e]; exact Int.le_refl _
  · have := h.lt (j - i - 1) i (by omega)
    rw [show i + (j - i - 1 + 1) = j by omega] at this
    omega
/-- What is so of an image whose counts are right. -/
structure Rt (p : Img) : Prop where
  small : 0 < p.funs.length ∧ p.funs.length ≤ 16
  first : p.funs.getD 0 0 = 0
  inc : Inc p.funs
  last : p.funs.getD (p.funs.length - 1) 0 < p.code.length
  code : p.code.length ≤ 256
  imm : ∀ j, j < p.code.length → 0 ≤ (p.code.getD j default).imm ∧ (p.code.getD j default).imm < 18446744073709551616
theorem ends_is {p : Img} (r : Rt p) {x : Int} (h0 : 0 ≤ x) (h1 : x < p.code.length) :
    0 ≤ (ends_s p (fun_s p x)).1 ∧ (ends_s p (fun_s p x)).1 ≤ x ∧ x < (ends_s p (fun_s p x)).2 ∧ (ends_s p (fun_s p x)).2 ≤ p.code.length ∧ ∀ y : Int, 0 ≤ y → y < p.code.length → (fun_s p y = fun_s p x ↔ (ends_s p (fun_s p x)).1 ≤ y ∧ y < (ends_s p (fun_s p x)).2) := by
  have F := fun_is h0 h1
  have rf := r.first
  rcases F with ⟨_, h2⟩ | ⟨f0, f1, f2, f3⟩
  · have := h2 0 r.small.1; omega
  obtain ⟨f, hf⟩ : ∃ f : Nat, fun_s p x = f := ⟨(fun_s p x).toNat, by omega⟩
  rw [hf] at f0 f1 f2 f3 ⊢
  rw [Int.toNat_natCast] at f2
  have lo0 : 0 ≤ p.funs.getD f 0 := by have := r.inc.le (Nat.zero_le f) (by omega); omega
  have key : ∀ y : Int, 0 ≤ y → y < p.code.length → (fun_s p y = f ↔ p.funs.getD f 0 ≤ y ∧ ∀ j : Nat, f < j → j < p.funs.length → y < p.funs.getD j 0) := by
    intro y y0 y1
    have Y := fun_is y0 y1
    constructor
    · intro e
      rw [e] at Y
      rcases Y with ⟨h, _⟩ | ⟨_, _, h3, h4⟩
      · omega
      · rw [Int.toNat_natCast] at h3
        exact ⟨h3, fun j hj hl => h4 j (by omega) hl⟩
    · rintro ⟨h3, h4⟩
      exact Y.uniq (.inr ⟨by omega, by omega, by rw [Int.toNat_natCast]; exact h3, fun j hj hl => h4 j (by omega) hl⟩)
  unfold ends_s
  by_cases c : (f : Int) + 1 < p.funs.length
  · rw [decide_eq_true c, Int.toNat_natCast, show ((f : Int) + 1).toNat = f + 1 by omega]
    simp only [cond_true]
    have hh := r.inc.le (show f + 1 ≤ p.funs.length - 1 by omega) (by omega)
    have hl := r.last
    refine ⟨lo0, f2, f3 (f + 1) (by omega) (by omega), by omega, fun y y0 y1 => ?_⟩
    rw [key y y0 y1]
    refine ⟨fun h => ⟨h.1, h.2 (f + 1) (by omega) (by omega)⟩, fun h => ⟨h.1, fun j hj hjl => ?_⟩⟩
    have := r.inc.le (show f + 1 ≤ j by omega) hjl
    omega
  · rw [decide_eq_false c, Int.toNat_natCast]
    simp only [cond_false]
    refine ⟨lo0, f2, h1, Int.le_refl _, fun y y0 y1 => ?_⟩
    rw [key y y0 y1]
    exact ⟨fun h => ⟨h.1, y1⟩, fun h => ⟨h.1, fun j hj hjl => by omega⟩⟩
theorem goes_eq (n : Int) : goes2_s n = goes_s n := by
  unfold goes2_s goes_s
  rw [known_iff]
  by_cases h : 0 ≤ n ∧ n < 26
  · rw [decide_eq_true (show n ≥ 0 by omega), decide_eq_true (show n ≤ 25 by omega), decide_eq_true h]
    simp only [cond_true, bne]
    cases (n == (0 : Int)) <;> cases (n == (21 : Int)) <;> cases (n == (24 : Int)) <;> cases (n == (25 : Int)) <;> rfl
  · rw [decide_eq_false h]
    have e : (bif n == (0 : Int) then false else (bif n == (21 : Int) then false else (bif n == (24 : Int) then false else (bif n == (25 : Int) then false else false)))) = false := by
      cases (n == (0 : Int)) <;> cases (n == (21 : Int)) <;> cases (n == (24 : Int)) <;> cases (n == (25 : Int)) <;> rfl
    rw [e]
    by_cases c : n ≥ 0
    · rw [decide_eq_true c, decide_eq_false (by omega)]; rfl
    · rw [decide_eq_false c]; rfl
theorem wu64 {n : Int} (h0 : 0 ≤ n) (h1 : n < 18446744073709551616) : IntKind.u64.wrap n = n := w64 h0 h1
theorem stray_step {p : Img} (r : Rt p) {i : Nat} (hi : i < p.code.length) (m : Nat) : rstray_l0 p (m + 1) i = bif strayf_s p i then (i : Int) else rstray_l0 p m (i + 1) := by
  obtain ⟨e0, e1, e2, e3, e4⟩ := ends_is r (x := i) (by omega) (by omega)
  have him := r.imm i hi
  have hc := r.code
  have hs := r.small
  rw [rstray_l0, decide_eq_true (show (i : Int) < p.code.length by omega)]
  simp only [cond_true]
  unfold strayf_s
  rw [Int.toNat_natCast]
  simp only [rfun_eq, goes_eq]
  obtain ⟨q, hq⟩ : ∃ q, p.code.getD i default = q := ⟨_, rfl⟩
  obtain ⟨lo, hlo⟩ : ∃ q, (ends_s p (fun_s p i)).1 = q := ⟨_, rfl⟩
  obtain ⟨hi', hhi⟩ : ∃ q, (ends_s p (fun_s p i)).2 = q := ⟨_, rfl⟩
  rw [hlo, hhi] at e4
  rw [hlo] at e0 e1
  rw [hhi] at e2 e3
  rw [hq] at him
  rw [hq, hlo, hhi, wu64 (n := lo) e0 (by omega), wu64 (n := hi') (by omega) (by omega), wu64 (n := (p.code.length : Int)) (by omega) (by omega), wu64 (n := (p.funs.length : Int)) (by omega) (by omega)]
  obtain ⟨Z, hZ⟩ : ∃ z, rstray_l0 p m ((i : Int) + 1) = z := ⟨_, rfl⟩
  rw [hZ]
  -- the ways of what goes on
  have hA : ∀ X : Int, (bif ((i : Int) + 1) == (p.code.length : Int) then (i : Int) else (bif (fun_s p ((i : Int) + 1)) != (fun_s p i) then (i : Int) else X)) = bif decide ((i : Int) + 1 ≥ hi') then (i : Int) else X := by
    intro X
    by_cases c : ((i : Int) + 1) = p.code.length
    · rw [show (((i : Int) + 1) == (p.code.length : Int)) = true by simpa using c, decide_eq_true (by omega)]; rfl
    · rw [show (((i : Int) + 1) == (p.code.length : Int)) = false by simpa using c]
      simp only [cond_false]
      have k := e4 ((i : Int) + 1) (by omega) (by omega)
      by_cases c2 : (i : Int) + 1 ≥ hi'
      · rw [decide_eq_true c2]
        have : ¬ fun_s p ((i : Int) + 1) = fun_s p i := fun e => by have := (k.1 e).2; omega
        rw [show (fun_s p ((i : Int) + 1) != fun_s p i) = true by simpa using this]
      · rw [decide_eq_false c2]
        have : fun_s p ((i : Int) + 1) = fun_s p i := k.2 ⟨by omega, by omega⟩
        rw [show (fun_s p ((i : Int) + 1) != fun_s p i) = false by simpa using this]
  have hB : ∀ X : Int, (bif decide (q.imm ≥ (p.code.length : Int)) then (i : Int) else (bif (fun_s p (IntKind.i64.wrap q.imm)) != (fun_s p i) then (i : Int) else X)) = bif (bif decide (q.imm < lo) then true else decide (q.imm ≥ hi')) then (i : Int) else X := by
    intro X
    by_cases c : q.imm ≥ (p.code.length : Int)
    · rw [decide_eq_true c, decide_eq_false (show ¬ q.imm < lo by omega), decide_eq_true (show q.imm ≥ hi' by omega)]; rfl
    · rw [decide_eq_false c, wrap_i64' him.1 (by omega)]
      simp only [cond_false]
      have k := e4 q.imm him.1 (by omega)
      by_cases c2 : lo ≤ q.imm ∧ q.imm < hi'
      · rw [show (fun_s p q.imm != fun_s p i) = false by simpa using k.2 c2, decide_eq_false (show ¬ q.imm < lo by omega), decide_eq_false (show ¬ q.imm ≥ hi' by omega)]; rfl
      · have : ¬ fun_s p q.imm = fun_s p i := fun e => c2 (k.1 e)
        rw [show (fun_s p q.imm != fun_s p i) = true by simpa using this]
        by_cases c3 : q.imm < lo
        · rw [decide_eq_true c3]; rfl
        · rw [decide_eq_false c3, decide_eq_true (show q.imm ≥ hi' by omega)]; rfl
  have hK : (bif q.op == (21 : Int) then (bif decide (q.imm ≥ (p.code.length : Int)) then (i : Int) else (bif (fun_s p (IntKind.i64.wrap q.imm)) != (fun_s p i) then (i : Int) else (bif q.op == (23 : Int) then (bif decide (q.imm ≥ (p.funs.length : Int)) then (i : Int) else Z) else Z))) else (bif q.op == (22 : Int) then (bif decide (q.imm ≥ (p.code.length : Int)) then (i : Int) else (bif (fun_s p (IntKind.i64.wrap q.imm)) != (fun_s p i) then (i : Int) else (bif q.op == (23 : Int) then (bif decide (q.imm ≥ (p.funs.length : Int)) then (i : Int) else Z) else Z))) else (bif q.op == (23 : Int) then (bif decide (q.imm ≥ (p.funs.length : Int)) then (i : Int) else Z) else Z)))
      = bif (bif q.op == (21 : Int) then (bif decide (q.imm < lo) then true else decide (q.imm ≥ hi')) else (bif q.op == (22 : Int) then (bif decide (q.imm < lo) then true else decide (q.imm ≥ hi')) else (bif q.op == (23 : Int) then decide (q.imm ≥ (p.funs.length : Int)) else false))) then (i : Int) else Z := by
    rw [hB]
    by_cases o1 : q.op = 21
    · rw [o1]; rfl
    · rw [show (q.op == (21 : Int)) = false by simpa using o1]
      simp only [cond_false]
      by_cases o2 : q.op = 22
      · rw [o2]; rfl
      · rw [show (q.op == (22 : Int)) = false by simpa using o2]
        simp only [cond_false]
        cases (q.op == (23 : Int)) <;> rfl
  rw [hA, hK]
  cases goes_s q.op with
  | false => rfl
  | true =>
    simp only [cond_true]
    cases decide ((i : Int) + 1 ≥ hi') <;> rfl
theorem stray_eq {p : Img} (r : Rt p) : rstray_s p = stray_s p := by
  have hp := places_eq p
  have key : ∀ (m i : Nat), p.code.length - i < m → rstray_l0 p m i = idx_l0 p (places_s p) m i := by
    intro m
    induction m with
    | zero => intro i hm; exact absurd hm (Nat.not_lt_zero _)
    | succ m ih =>
      intro i hm
      by_cases h : i < p.code.length
      · rw [stray_step r h, idx_l0, hp.1, decide_eq_true (show (i : Int) < p.code.length by omega), Int.toNat_natCast, hp.2 i h]
        simp only [cond_true]
        rw [show ((i : Int) + 1) = ((i + 1 : Nat) : Int) from rfl, ih (i + 1) (by omega)]
      · rw [rstray_l0, idx_l0, hp.1, decide_eq_false (show ¬ (i : Int) < p.code.length by omega)]; rfl
  unfold rstray_s stray_s idx_s
  rw [hp.1]
  exact key _ 0 (Nat.lt_succ_self _)
theorem within_yes {n lo hi : Int} (h : lo ≤ n ∧ n ≤ hi) : within_s n lo hi = true := by
  unfold within_s
  rw [decide_eq_true (show n ≥ lo by omega), decide_eq_true (show n ≤ hi by omega)]; rfl
theorem sizes_l0_yes {p : Img} (hi : Inc p.funs) (hw : within_s (p.code.length : Int) (IntKind.i64.wrap (p.funs.getD (((p.funs.length : Int) - 1).toNat) 0 + 1)) 256 = true) : ∀ (m i : Nat), (p.funs.drop 1).length - i < m → sizes_l0 p m i = true := by
  intro m
  induction m with
  | zero => intro i hm; exact absurd hm (Nat.not_lt_zero _)
  | succ m ih =>
    intro i hm
    rw [sizes_l0]
    have hl : (p.funs.drop 1).length = p.funs.length - 1 := List.length_drop
    by_cases h : (i : Int) < (p.funs.drop 1).length
    · rw [decide_eq_true h, Int.toNat_natCast, drop1_getD, decide_eq_false (by have := hi i (by omega); omega)]
      exact ih (i + 1) (by omega)
    · rw [decide_eq_false h]; exact hw
theorem sizes_yes {p : Img} (h1 : 0 ≤ p.mem ∧ p.mem ≤ 64) (h2 : 0 ≤ p.stack ∧ p.stack ≤ 16) (h3 : 0 ≤ p.input ∧ p.input ≤ 16) (h4 : (p.data.length : Int) ≤ p.mem) (r : Rt p) : sizes_s p = true := by
  have hs := r.small
  have hf : 0 ≤ p.funs.getD (p.funs.length - 1) 0 := by have := r.inc.le (Nat.zero_le (p.funs.length - 1)) (by omega); have := r.first; omega
  have hl := r.last
  have hc := r.code
  unfold sizes_s
  rw [within_yes h1, within_yes h2, within_yes h3, decide_eq_false (by omega), within_yes (n := (p.funs.length : Int)) ⟨by omega, by omega⟩, show (p.funs.getD 0 0 != 0) = false by simpa using r.first]
  simp only [Bool.not_true, cond_false]
  refine sizes_l0_yes r.inc ?_ _ 0 (Nat.lt_succ_self _)
  rw [show ((p.funs.length : Int) - 1).toNat = p.funs.length - 1 by omega, wrap_i64' (by omega) (by omega)]
  exact within_yes ⟨by omega, by omega⟩
theorem enc_l1_ok {p : Img} (hI : ∀ j, j < p.code.length → (put_s (p.code.getD j default)).2 = 0) (hs : ¬ stray_s p ≥ 0) : ∀ (m i : Nat) (out : List Int), p.code.length - i < m → (encode_l1 p m i out).2 = 0 := by
  intro m
  induction m with
  | zero => intro i out hm; exact absurd hm (Nat.not_lt_zero _)
  | succ m ih =>
    intro i out hm
    rw [encode_l1]
    by_cases h : (i : Int) < p.code.length
    · rw [decide_eq_true h, Int.toNat_natCast, show ((put_s (p.code.getD i default)).2 != 0) = false from bne_eq_false_iff_eq.2 (hI i (by omega))]
      exact ih (i + 1) _ (by omega)
    · rw [decide_eq_false h, decide_eq_false hs]; rfl
theorem enc_l0_ok {p : Img} (hI : ∀ j, j < p.code.length → (put_s (p.code.getD j default)).2 = 0) (hs : ¬ stray_s p ≥ 0) : ∀ (m i : Nat) (out : List Int), p.funs.length - i < m → (encode_l0 p m i out).2 = 0 := by
  intro m
  induction m with
  | zero => intro i out hm; exact absurd hm (Nat.not_lt_zero _)
  | succ m ih =>
    intro i out hm
    rw [encode_l0]
    by_cases h : (i : Int) < p.funs.length
    · rw [decide_eq_true h]
      exact ih (i + 1) _ (by omega)
    · rw [decide_eq_false h]
      exact enc_l1_ok hI hs _ 0 _ (Nat.lt_succ_self _)
theorem check_l1_t {p : Img} : ∀ (m : Nat) (i : Nat), check_l1 p m i = 0 → p.code.length - i < m → (∀ j : Nat, i ≤ j → j < p.code.length → (rput_s (p.code.getD j default)).2 = 0) ∧ ¬ rstray_s p ≥ 0 := by
  intro m
  induction m with
  | zero => intro i _ hm; exact absurd hm (Nat.not_lt_zero _)
  | succ m ih =>
    intro i h hm
    rw [check_l1] at h
    by_cases h1 : (i : Int) < p.code.length
    · rw [decide_eq_true h1, Int.toNat_natCast] at h
      simp only [cond_true] at h
      cases h2 : ((rput_s (p.code.getD i default)).2 != (0 : Int)) with
      | true => rw [h2] at h; exact absurd (show (rput_s (p.code.getD i default)).2 = 0 from h) (by simpa using h2)
      | false =>
        rw [h2] at h
        obtain ⟨q1, q2⟩ := ih (i + 1) h (by omega)
        refine ⟨fun j h3 h4 => ?_, q2⟩
        by_cases e : j = i
        · subst e; simpa using h2
        · exact q1 j (by omega) h4
    · rw [decide_eq_false h1] at h
      simp only [cond_false] at h
      cases h2 : decide (rstray_s p ≥ (0 : Int)) with
      | true => rw [h2] at h; exact absurd (show (7 : Int) = 0 from h) (by decide)
      | false => exact ⟨fun j h3 h4 => by omega, of_decide_eq_false h2⟩
theorem check_l0_t {p : Img} : ∀ (m : Nat) (i : Nat), check_l0 p m i = 0 → p.funs.length - i < m → (∀ j : Nat, i ≤ j → j < p.funs.length → (j = 0 → p.funs.getD 0 0 = 0) ∧ (0 < j → p.funs.getD (j - 1) 0 < p.funs.getD j 0)) ∧ p.funs.getD (p.funs.length - 1) 0 < p.code.length ∧ p.code.length ≤ 256 ∧ check_l1 p (p.code.length - ((0) : Int).toNat + 1) 0 = 0 := by
  intro m
  induction m with
  | zero => intro i _ hm; exact absurd hm (Nat.not_lt_zero _)
  | succ m ih =>
    intro i h hm
    rw [check_l0] at h
    cases h1 : decide ((i : Int) < (p.funs.length : Int)) with
    | false =>
      have h1 := of_decide_eq_false h1
      rw [decide_eq_false h1] at h
      simp only [cond_false] at h
      cases h2 : decide ((p.code.length : Int) > (256 : Int)) with
      | true => rw [h2] at h; exact absurd (show (3 : Int) = 0 from h) (by decide)
      | false =>
        rw [h2] at h
        have h2 := of_decide_eq_false h2
        simp only [cond_false] at h
        cases h3 : decide ((p.funs.getD (((p.funs.length : Int) - 1).toNat) 0) ≥ (p.code.length : Int)) with
        | true => rw [h3] at h; exact absurd (show (3 : Int) = 0 from h) (by decide)
        | false =>
          rw [h3] at h
          have h3 := of_decide_eq_false h3
          rw [show ((p.funs.length : Int) - 1).toNat = p.funs.length - 1 by omega] at h3
          exact ⟨fun j h4 h5 => by omega, by omega, by omega, h⟩
    | true =>
      rw [h1] at h
      have h1 := of_decide_eq_true h1
      simp only [cond_true] at h
      by_cases hz : i = 0
      · subst hz
        have e0 : (((0 : Nat) : Int) == (0 : Int)) = true := rfl
        have e1 : decide (((0 : Nat) : Int) > (0 : Int)) = false := rfl
        rw [e0, e1] at h
        simp only [cond_true, cond_false, Int.toNat_natCast] at h
        cases h2 : (p.funs.getD 0 0 != (0 : Int)) with
        | true => rw [h2] at h; exact absurd (show (3 : Int) = 0 from h) (by decide)
        | false =>
          rw [h2] at h
          obtain ⟨q1, q2⟩ := ih 1 h (by omega)
          refine ⟨fun j h4 h5 => ⟨fun _ => by simpa using h2, fun h6 => (q1 j (by omega) h5).2 h6⟩, q2⟩
      · have e0 : ((i : Int) == (0 : Int)) = false := by simpa using hz
        have e1 : decide ((i : Int) > (0 : Int)) = true := decide_eq_true (by omega)
        rw [e0, e1] at h
        simp only [cond_true, cond_false, Int.toNat_natCast] at h
        rw [show ((i : Int) - 1).toNat = i - 1 by omega] at h
        cases h2 : decide (p.funs.getD i 0 ≤ p.funs.getD (i - 1) 0) with
        | true => rw [h2] at h; exact absurd (show (3 : Int) = 0 from h) (by decide)
        | false =>
          rw [h2] at h
          have h2 := of_decide_eq_false h2
          obtain ⟨q1, q2⟩ := ih (i + 1) h (by omega)
          refine ⟨fun j h4 h5 => ⟨fun h6 => by omega, fun h6 => ?_⟩, q2⟩
          by_cases e : j = i
          · subst e; omega
          · exact (q1 j (by omega) h5).2 h6
/-- All numbers of instructions are words. -/
def ImmU (p : Img) : Prop := ∀ j, 0 ≤ (p.code.getD j default).imm ∧ (p.code.getD j default).imm < 18446744073709551616
/-- What is right by the document: its counts are right, and it is encoded. -/
theorem right_all {p : Img} (hI : ImmU p) (h : right_s p = true) : Rt p ∧ (encode_s p).2 = 0 ∧ (0 ≤ p.mem ∧ p.mem ≤ 64) ∧ (0 ≤ p.stack ∧ p.stack ≤ 16) ∧ (∀ j, j < p.code.length → strayf_s p j = false) ∧ (p.data.length : Int) ≤ p.mem := by
  have h : check_s p = 0 := by unfold right_s at h; simpa using h
  have n3 : ¬ (3 : Int) = 0 := by decide
  unfold check_s at h
  cases h1 : !(in3_s p.mem 0 64) with
  | true => rw [h1] at h; exact absurd h n3
  | false =>
  rw [h1] at h
  cases h2 : !(in3_s p.stack 0 16) with
  | true => rw [h2] at h; exact absurd h n3
  | false =>
  rw [h2] at h
  cases h3 : !(in3_s p.input 0 16) with
  | true => rw [h3] at h; exact absurd h n3
  | false =>
  rw [h3] at h
  cases h4 : decide ((p.data.length : Int) > p.mem) with
  | true => rw [h4] at h; exact absurd h n3
  | false =>
  rw [h4] at h
  cases h5 : !(in3_s (p.funs.length : Int) 1 16) with
  | true => rw [h5] at h; exact absurd h n3
  | false =>
  rw [h5] at h
  have hf := in3_t (notF h5)
  have h4 := of_decide_eq_false h4
  obtain ⟨q1, q2, q3, q4⟩ := check_l0_t _ 0 (show check_l0 p _ ((0 : Nat) : Int) = 0 from h) (Nat.lt_succ_self _)
  have r : Rt p := ⟨⟨by omega, by omega⟩, (q1 0 (Nat.le_refl _) (by omega)).1 rfl, fun j hj => by have := (q1 (j + 1) (Nat.zero_le _) hj).2 (Nat.succ_pos _); simpa using this, q2, q3, fun j _ => hI j⟩
  obtain ⟨p1, p2⟩ := check_l1_t _ 0 (show check_l1 p _ ((0 : Nat) : Int) = 0 from q4) (Nat.lt_succ_self _)
  have hput : ∀ j, j < p.code.length → (put_s (p.code.getD j default)).2 = 0 := fun j hj => by
    have := p1 j (Nat.zero_le _) hj
    rw [put_eq, ← rput_eq (hI j).1 (hI j).2]; exact this
  rw [stray_eq r] at p2
  refine ⟨r, ?_, in3_t (notF h1), in3_t (notF h2), stray_f (by omega), by omega⟩
  unfold encode_s
  rw [sizes_yes (in3_t (notF h1)) (in3_t (notF h2)) (in3_t (notF h3)) (by omega) r]
  exact enc_l0_ok hput p2 _ 0 _ (Nat.lt_succ_self _)
end Go.Proofs.Yteolbecihipcaaa.Sx.M5
