/- What the functions of a chapter compute, as contracts; written by a program of this session. -/
import Derived.Test.YteolbecihipcaaaM6
open Go Go.Proofs Go.RowKit
namespace Go.Proofs.Yteolbecihipcaaa.Sx.M5
set_option linter.unusedVariables false
set_option linter.unusedSimpArgs false
theorem bifP {α : Type} {P : α → Prop} {b : Bool} {x y : α} (h1 : b = true → P x) (h2 : b = false → P y) : P (bif b then x else y) := by
  cases b with
  | true => exact h1 rfl
  | false => exact h2 rfl
def Inc (l : List Int) : Prop := ∀ j, j + 1 < l.length → l.getD j 0 < l.getD (j + 1) 0
/-- What an operation's row says. -/
def hs (op : Int) : Int := (forms_s.getD op.toNat default).has
def hA (op : Int) : Bool := Go.bits .and .i64 (hs op) 1 != (0 : Int)
def hB (op : Int) : Bool := Go.bits .and .i64 (hs op) 2 != (0 : Int)
def hW (op : Int) : Bool := Go.bits .and .i64 (hs op) 8 != (0 : Int)
def hCW (op : Int) : Bool := Go.bits .and .i64 (hs op) 12 != (0 : Int)
def hI (op : Int) : Bool := Go.bits .and .i64 (hs op) 16 != (0 : Int)
/-- May a register, or what isn't one, be so? -/
def okR (h : Bool) (n : Int) : Bool := bif h then register_s n else n == 0
def wideB (c : Int) : Bool := c == 1 || (c == 2 || (c == 4 || c == 8))
def okC (op c : Int) : Bool := bif hW op then wideB c else okR (hCW op) c
/-- Which part is wrong: 0: none. -/
def W (i : Ins) : Int :=
  bif okR (hA i.op) i.a then (bif okR (hB i.op) i.b then (bif okC i.op i.c then (bif !hI i.op && i.imm != 0 then 4 else 0) else 3) else 2) else 1
theorem W_range (i : Ins) : 0 ≤ W i ∧ W i ≤ 4 := by
  unfold W
  cases okR (hA i.op) i.a <;> cases okR (hB i.op) i.b <;> cases okC i.op i.c <;> cases (!hI i.op && i.imm != 0) <;> simp
theorem kept_eq (i : Ins) : kept_s i ((forms_s.getD i.op.toNat default).has) = ⟨i.op, bif hA i.op then i.a else 0, bif hB i.op then i.b else 0, bif hCW i.op then i.c else 0, bif hI i.op then i.imm else 0⟩ := by
  unfold kept_s hA hB hCW hI hs
  cases (Go.bits .and .i64 (forms_s.getD i.op.toNat default).has 1 != (0 : Int)) <;> cases (Go.bits .and .i64 (forms_s.getD i.op.toNat default).has 2 != (0 : Int)) <;> cases (Go.bits .and .i64 (forms_s.getD i.op.toNat default).has 12 != (0 : Int)) <;> cases (Go.bits .and .i64 (forms_s.getD i.op.toNat default).has 16 != (0 : Int)) <;> rfl
theorem regstep (h : Bool) (n e X : Int) : (bif n != (bif h then n else 0) then e else (bif !(register_s n) then e else X)) = (bif okR h n then X else e) := by
  unfold okR
  cases h with
  | true => cases hr : register_s n <;> simp [hr]
  | false =>
    by_cases z : n = 0
    · subst z; rfl
    · have : (n == 0) = false := by simpa using z
      simp [this, bne]
theorem hW_CW : ∀ j : _root_.Fin 26, hW (j.val : Int) = true → hCW (j.val : Int) = true := by decide +kernel
theorem endstep (i : Ins) (k : Ins) (ha : i.a = k.a) (hb : i.b = k.b) (hc : i.c = k.c) (ho : i.op = k.op) : (!(i.op == k.op && (i.a == k.a && (i.b == k.b && (i.c == k.c && (i.imm == k.imm)))))) = (i.imm != k.imm) := by
  rw [ha, hb, hc, ho]; simp [bne]
theorem okR_t {h : Bool} {n : Int} (e : okR h n = true) : n = (bif h then n else 0) := by
  unfold okR at e
  cases h with
  | true => rfl
  | false => simpa using e
theorem wrongC (i : Ins) (w : Bool) (hcw : hW i.op = true → hCW i.op = true) (hw : w = wideB i.c) : wrong_c4 i w = W i := by
  unfold wrong_c4 W
  rw [kept_eq]
  simp only
  simp only [regstep]
  cases eA : okR (hA i.op) i.a with
  | false => cases w <;> rfl
  | true =>
  cases eB : okR (hB i.op) i.b with
  | false => cases w <;> rfl
  | true =>
  simp only [cond_true]
  have zA := okR_t eA
  have zB := okR_t eB
  have hend : ∀ c', i.c = c' → (bif !(i.op == i.op && (i.a == (bif hA i.op then i.a else 0) && (i.b == (bif hB i.op then i.b else 0) && (i.c == c' && (i.imm == (bif hI i.op then i.imm else 0)))))) then (4 : Int) else 0) = (bif !hI i.op && i.imm != 0 then 4 else 0) := by
    intro c' hc
    rw [← zA, ← zB, ← hc]
    cases hI i.op <;> simp [bne]
  unfold okC
  have e8 : (Go.bits .and .i64 (forms_s.getD i.op.toNat default).has 8 != (0 : Int)) = hW i.op := rfl
  have e8' : (Go.bits .and .i64 (forms_s.getD i.op.toNat default).has 8 == (0 : Int)) = !hW i.op := by rw [← e8]; simp [bne]
  rw [e8, e8']
  cases eW : hW i.op with
  | true =>
    have hc := hcw eW
    rw [hc]
    simp only [cond_true, bne_self_eq_false, cond_false, Bool.not_true]
    subst hw
    cases hwd : wideB i.c with
    | true => simp only [cond_true]; exact hend _ rfl
    | false => rfl
  | false =>
    simp only [cond_false, Bool.not_false, cond_true]
    have key : ∀ X : Int, (bif i.c != (bif hCW i.op then i.c else 0) then (3 : Int) else (bif !(register_s i.c) then 3 else X)) = (bif okR (hCW i.op) i.c then X else 3) := fun X => regstep _ _ _ _
    rw [key]
    cases eC : okR (hCW i.op) i.c with
    | false => cases w <;> rfl
    | true =>
      simp only [cond_true]
      have := hend _ (okR_t eC)
      cases w <;> exact this
theorem wrong_eq {i : Ins} (h0 : 0 ≤ i.op) (h1 : i.op < 26) : wrong_s i = W i := by
  have hcw : hW i.op = true → hCW i.op = true := by
    intro h
    have e : ((i.op.toNat : Nat) : Int) = i.op := by omega
    have := hW_CW ⟨i.op.toNat, by omega⟩
    simp only [e] at this
    exact this h
  unfold wrong_s
  cases e1 : (i.c == (1 : Int)) with
  | true => exact wrongC i true hcw (by unfold wideB; rw [e1]; rfl)
  | false =>
  cases e2 : (i.c == (2 : Int)) with
  | true => exact wrongC i true hcw (by unfold wideB; rw [e1, e2]; rfl)
  | false =>
  cases e4 : (i.c == (4 : Int)) with
  | true => exact wrongC i true hcw (by unfold wideB; rw [e1, e2, e4]; rfl)
  | false => exact wrongC i _ hcw (by unfold wideB; rw [e1, e2, e4]; rfl)

/-! the document's -/
theorem known_iff {n : Int} : known_s n = decide (0 ≤ n ∧ n < 26) := by
  unfold known_s
  cases h : decide (n ≥ (0 : Int)) with
  | false => have := of_decide_eq_false h; symm; exact decide_eq_false (by omega)
  | true => have := of_decide_eq_true h; simp only [cond_true]; rw [decide_eq_decide]; omega
theorem bifT {b : Bool} {x y : Bool} (h : (bif b then x else y) = true) : (b = true ∧ x = true) ∨ (b = false ∧ y = true) := by
  cases b with
  | true => exact .inl ⟨rfl, h⟩
  | false => exact .inr ⟨rfl, h⟩
theorem few_t {p : Img} (h : few_s p = true) : Small p := by
  unfold few_s at h
  rcases bifT h with ⟨h1, h⟩ | ⟨_, h⟩
  · rcases bifT h with ⟨h2, h⟩ | ⟨_, h⟩
    · have h1 := of_decide_eq_true h1
      have h2 := of_decide_eq_true h2
      have h3 := of_decide_eq_true h
      exact ⟨by omega, by omega, by omega⟩
    · cases h
  · cases h
theorem drop1_getD (l : List Int) (i : Nat) : (l.drop 1).getD i 0 = l.getD (i + 1) 0 := by
  rw [List.getD_eq_getElem?_getD, List.getElem?_drop, ← List.getD_eq_getElem?_getD, Nat.add_comm]
theorem sizes_l0_t {p : Img} : ∀ (m : Nat) (i : Nat), sizes_l0 p m i = true → (p.funs.drop 1).length - i < m →
    (∀ j, i ≤ j → j + 1 < p.funs.length → p.funs.getD j 0 < p.funs.getD (j + 1) 0) ∧ IntKind.i64.wrap (p.funs.getD (((p.funs.length : Int) - 1).toNat) 0 + 1) ≤ p.code.length ∧ p.code.length ≤ 256 := by
  intro m
  induction m with
  | zero => intro i _ hm; exact absurd hm (Nat.not_lt_zero _)
  | succ m ih =>
    intro i h hm
    rw [sizes_l0] at h
    have hl : (p.funs.drop 1).length = p.funs.length - 1 := List.length_drop
    rcases bifT h with ⟨h1, h⟩ | ⟨h1, h⟩
    · have h1 := of_decide_eq_true h1
      rcases bifT h with ⟨_, h⟩ | ⟨h2, h⟩
      · cases h
      · have h2 := of_decide_eq_false h2
        rw [Int.toNat_natCast, drop1_getD] at h2
        obtain ⟨q1, q2⟩ := ih (i + 1) h (by omega)
        refine ⟨fun j h3 h4 => ?_, q2⟩
        by_cases e : j = i
        · subst e; omega
        · exact q1 j (by omega) h4
    · have h1 := of_decide_eq_false h1
      have := within_t h
      exact ⟨fun j h3 h4 => by omega, this.1, by omega⟩
/-- What an image is of which all numbers and counts are right. -/
structure Sized (p : Img) : Prop where
  mem : 0 ≤ p.mem ∧ p.mem ≤ 64
  stack : 0 ≤ p.stack ∧ p.stack ≤ 16
  input : 0 ≤ p.input ∧ p.input ≤ 16
  data : (p.data.length : Int) ≤ p.mem
  funs : 1 ≤ p.funs.length ∧ p.funs.length ≤ 16
  first : p.funs.getD 0 0 = 0
  inc : Inc p.funs
  last : IntKind.i64.wrap (p.funs.getD (p.funs.length - 1) 0 + 1) ≤ p.code.length
  code : p.code.length ≤ 256
theorem sizes_sized {p : Img} (h : sizes_s p = true) : Sized p := by
  unfold sizes_s at h
  rcases bifT h with ⟨_, h⟩ | ⟨h1, h⟩
  · cases h
  rcases bifT h with ⟨_, h⟩ | ⟨h2, h⟩
  · cases h
  rcases bifT h with ⟨_, h⟩ | ⟨h3, h⟩
  · cases h
  rcases bifT h with ⟨_, h⟩ | ⟨h4, h⟩
  · cases h
  rcases bifT h with ⟨_, h⟩ | ⟨h5, h⟩
  · cases h
  rcases bifT h with ⟨_, h⟩ | ⟨h6, h⟩
  · cases h
  have h5 := within_t (notF h5)
  have q := sizes_l0_t _ 0 h (Nat.lt_succ_self _)
  have e : ((p.funs.length : Int) - 1).toNat = p.funs.length - 1 := by omega
  rw [e] at q
  exact ⟨within_t (notF h1), within_t (notF h2), within_t (notF h3), by have := of_decide_eq_false h4; omega, ⟨by omega, by omega⟩, by simpa using h6, fun j hj => q.1 j (by omega) hj, q.2.1, q.2.2⟩
theorem enc_l1_len (p : Img) : ∀ (m : Nat) (i : Nat) (out : List Int) (N : Nat), out.length + 12 * (p.code.length - i) ≤ N → (encode_l1 p m i out).1.length ≤ N := by
  intro m
  induction m with
  | zero => intro i out N h; exact Nat.zero_le _
  | succ m ih =>
    intro i out N h
    rw [encode_l1]
    refine bifP (P := fun r : List Int × Int => r.1.length ≤ N) (fun h1 => ?_) (fun _ => ?_)
    · have h1 := of_decide_eq_true h1
      refine bifP (P := fun r : List Int × Int => r.1.length ≤ N) (fun _ => Nat.zero_le _) (fun _ => ih (i + 1) _ _ ?_)
      have := put_len (p.code.getD (i : Int).toNat default)
      rw [List.length_append]; omega
    · exact bifP (P := fun r : List Int × Int => r.1.length ≤ N) (fun _ => Nat.zero_le _) (fun _ => by show out.length ≤ N; omega)
theorem enc_l0_len (p : Img) : ∀ (m : Nat) (i : Nat) (out : List Int) (N : Nat), out.length + 2 * (p.funs.length - i) + 2 + 12 * p.code.length ≤ N → (encode_l0 p m i out).1.length ≤ N := by
  intro m
  induction m with
  | zero => intro i out N h; exact Nat.zero_le _
  | succ m ih =>
    intro i out N h
    rw [encode_l0]
    refine bifP (P := fun r : List Int × Int => r.1.length ≤ N) (fun h1 => ?_) (fun _ => ?_)
    · have h1 := of_decide_eq_true h1
      exact ih (i + 1) _ _ (by rw [List.length_append]; simp; omega)
    · exact enc_l1_len p _ 0 _ _ (by rw [List.length_append]; simp; omega)
theorem enc_len (p : Img) : (encode_s p).1.length < 2 ^ 40 := by
  unfold encode_s
  cases h : sizes_s p with
  | false => show ([] : List Int).length < 2 ^ 40; decide
  | true =>
    have s := sizes_sized h
    have h1 := s.data
    have h2 := s.mem
    have h3 := s.funs
    have h4 := s.code
    refine Nat.lt_of_le_of_lt (enc_l0_len p _ 0 _ 4000 ?_) (by decide)
    simp; omega
/-! where it doesn't flow -/
theorem okR_rng {h : Bool} {n : Int} (e : okR h n = true) : 0 ≤ n ∧ n < 8 := by
  unfold okR at e
  cases h with
  | true =>
    have e : register_s n = true := e
    unfold register_s at e
    rcases bifT e with ⟨h1, h2⟩ | ⟨_, h2⟩
    · exact ⟨of_decide_eq_true h1, of_decide_eq_true h2⟩
    · cases h2
  | false =>
    have e : n = 0 := by simpa using e
    omega
theorem hW_iff : ∀ j : _root_.Fin 26, hW (j.val : Int) = true ↔ j.val = 17 ∨ j.val = 18 := by decide +kernel
theorem put_zero {i : Ins} (h : (put_s i).2 = 0) : (0 ≤ i.op ∧ i.op < 26) ∧ W i = 0 := by
  unfold put_s at h
  cases hk : known_s i.op with
  | false => rw [hk] at h; exact absurd (show (4 : Int) = 0 from h) (by decide)
  | true =>
    rw [known_iff] at hk
    have hk := of_decide_eq_true hk
    refine ⟨hk, ?_⟩
    rw [← wrong_eq hk.1 hk.2]
    rw [show known_s i.op = true by rw [known_iff]; exact decide_eq_true hk] at h
    cases hw : (wrong_s i != 0) with
    | true => rw [hw] at h; exact absurd (show (5 : Int) = 0 from h) (by decide)
    | false => simpa using hw
theorem W_zero {i : Ins} (h : W i = 0) : okR (hA i.op) i.a = true ∧ okR (hB i.op) i.b = true ∧ okC i.op i.c = true := by
  unfold W at h
  cases h1 : okR (hA i.op) i.a <;> cases h2 : okR (hB i.op) i.b <;> cases h3 : okC i.op i.c <;> rw [h1, h2, h3] at h <;> simp at h ⊢
theorem enc_l1_t (p : Img) : ∀ (m : Nat) (i : Nat) (out : List Int), (encode_l1 p m i out).2 = 0 → p.code.length - i < m → (∀ j, i ≤ j → j < p.code.length → (put_s (p.code.getD j default)).2 = 0) ∧ stray_s p < 0 := by
  intro m
  induction m with
  | zero => intro i out _ hm; exact absurd hm (Nat.not_lt_zero _)
  | succ m ih =>
    intro i out h hm
    rw [encode_l1] at h
    cases h1 : decide ((i : Int) < (p.code.length : Int)) with
    | true =>
      rw [h1] at h
      have h1 := of_decide_eq_true h1
      rw [Int.toNat_natCast] at h
      cases h2 : ((put_s (p.code.getD i default)).2 != (0 : Int)) with
      | true =>
        rw [h2] at h
        have h : (put_s (p.code.getD i default)).2 = 0 := h
        rw [h] at h2; exact absurd h2 (by decide)
      | false =>
        rw [h2] at h
        obtain ⟨q1, q2⟩ := ih (i + 1) _ h (by omega)
        refine ⟨fun j h3 h4 => ?_, q2⟩
        by_cases e : j = i
        · subst e; simpa using h2
        · exact q1 j (by omega) h4
    | false =>
      rw [h1] at h
      have h1 := of_decide_eq_false h1
      refine ⟨fun j h3 h4 => by omega, ?_⟩
      cases h2 : decide (stray_s p ≥ (0 : Int)) with
      | true => rw [h2] at h; exact absurd (show (7 : Int) = 0 from h) (by decide)
      | false => have := of_decide_eq_false h2; omega
theorem enc_l0_t (p : Img) : ∀ (m : Nat) (i : Nat) (out : List Int), (encode_l0 p m i out).2 = 0 → p.funs.length - i < m → (∀ j, j < p.code.length → (put_s (p.code.getD j default)).2 = 0) ∧ stray_s p < 0 := by
  intro m
  induction m with
  | zero => intro i out _ hm; exact absurd hm (Nat.not_lt_zero _)
  | succ m ih =>
    intro i out h hm
    rw [encode_l0] at h
    cases h1 : decide ((i : Int) < (p.funs.length : Int)) with
    | true =>
      rw [h1] at h
      have h1 := of_decide_eq_true h1
      exact ih (i + 1) _ h (by omega)
    | false =>
      rw [h1] at h
      obtain ⟨q1, q2⟩ := enc_l1_t p _ 0 _ h (Nat.lt_succ_self _)
      exact ⟨fun j hj => q1 j (Nat.zero_le _) hj, q2⟩
theorem idx_l0_f (p : Img) (l : List Int) : ∀ (m : Nat) (i : Nat), idx_l0 p l m i < 0 → l.length - i < m → ∀ j, i ≤ j → j < l.length → strayf_s p (l.getD j 0) = false := by
  intro m
  induction m with
  | zero => intro i _ hm; exact absurd hm (Nat.not_lt_zero _)
  | succ m ih =>
    intro i h hm j h3 h4
    rw [idx_l0, decide_eq_true (by omega), Int.toNat_natCast] at h
    cases h2 : strayf_s p (l.getD i 0) with
    | true => rw [h2] at h; exact absurd (show (i : Int) < 0 from h) (by omega)
    | false =>
      rw [h2] at h
      by_cases e : j = i
      · subst e; exact h2
      · exact ih (i + 1) h (by omega) j (by omega) h4
theorem stray_f {p : Img} (h : stray_s p < 0) : ∀ j, j < p.code.length → strayf_s p j = false := by
  intro j hj
  unfold stray_s idx_s at h
  have := idx_l0_f p (places_s p) _ 0 h (Nat.lt_succ_self _) j (Nat.zero_le _) (by rw [(places_eq p).1]; exact hj)
  rwa [(places_eq p).2 j hj] at this
theorem strayf_call {p : Img} {j : Nat} (h : strayf_s p j = false) (hc : (p.code.getD j default).op = 23) : ¬ (p.code.getD j default).imm ≥ IntKind.u64.wrap (p.funs.length : Int) := by
  unfold strayf_s at h
  rw [Int.toNat_natCast, hc] at h
  have hg : goes_s 23 = true := by decide
  rw [hg] at h
  cases h1 : decide ((j : Int) + 1 ≥ (ends_s p (fun_s p j)).2) with
  | true => rw [h1] at h; cases h
  | false => rw [h1] at h; exact of_decide_eq_false h
/-- What an image that can be encoded has. -/
theorem enc_valid {p : Img} (hp : Small p) (hI : ImmOk p) (h : (encode_s p).2 = 0) : ValidP p := by
  unfold encode_s at h
  cases hs : sizes_s p with
  | false => rw [hs] at h; exact absurd (show (3 : Int) = 0 from h) (by decide)
  | true =>
    rw [hs] at h
    have S := sizes_sized hs
    obtain ⟨q1, q2⟩ := enc_l0_t p _ 0 _ h (Nat.lt_succ_self _)
    refine ⟨hp, S.stack, S.mem, S.data, fun j hj => ?_⟩
    obtain ⟨ho, hw⟩ := put_zero (q1 j hj)
    obtain ⟨wa, wb, wc⟩ := W_zero hw
    generalize hi : p.code.getD j default = i at ho wa wb wc
    have e : ((i.op.toNat : Nat) : Int) = i.op := by omega
    have hw17 := hW_iff ⟨i.op.toNat, by omega⟩
    simp only [e] at hw17
    refine ⟨ho, okR_rng wa, okR_rng wb, fun h1 h2 => ?_, fun h1 => ?_, fun h1 => ?_⟩
    · unfold okC at wc
      cases hq : hW i.op with
      | true => have := hw17.1 hq; omega
      | false => rw [hq] at wc; exact okR_rng wc
    · unfold okC at wc
      rw [hw17.2 (by omega)] at wc
      have wc : wideB i.c = true := wc
      unfold wideB at wc
      simp at wc
      omega
    · have h2 := strayf_call (stray_f q2 j hj) (by rw [hi]; exact h1)
      rw [hi, wrap_u64] at h2
      have h3 := hI j
      rw [hi] at h3
      have := hp.2.1
      exact ⟨h3, by omega⟩
theorem eachS_len (p : Img) (inp : List Int) (pl : Int) (regs : Nat → Int) (mem os : List Int) (i : Ins) (x : Int) : (eachS_s p inp pl regs mem os i x).2.length = mem.length := by
  have key : ∀ (m : Nat) (k : Int) (ms : List Int), ms.length = mem.length → (i.c - k).toNat < m → (eachS_l0 p inp pl regs mem os i x m k ms).2.length = mem.length := by
    intro m
    induction m with
    | zero => intro k ms _ hm; exact absurd hm (Nat.not_lt_zero _)
    | succ m ih =>
      intro k ms hl hm
      rw [eachS_l0]
      refine bifP (P := fun r : Bool × List Int => r.2.length = mem.length) (fun h => ?_) (fun _ => hl)
      have := of_decide_eq_true h
      exact ih _ _ (by unfold sv1_s; rw [List.length_set]; exact hl) (by omega)
  unfold eachS_s
  exact bifP (P := fun r : Bool × List Int => r.2.length = mem.length) (fun _ => rfl) fun _ => bifP (P := fun r : Bool × List Int => r.2.length = mem.length) (fun _ => rfl) fun _ => key _ _ _ rfl (Nat.lt_succ_self _)
theorem one_len {p : Img} {inp : List Int} {pl : Int} {regs : Nat → Int} {mem os : List Int} (hv : ValidP p) (ho : os.length ≤ 16) : (one_s p inp pl regs mem os).2.2.2.1.length = mem.length ∧ (one_s p inp pl regs mem os).2.2.2.2.length ≤ 16 := by
  let Q := fun r : Int × Int × (Nat → Int) × List Int × List Int => r.2.2.2.1.length = mem.length ∧ r.2.2.2.2.length ≤ 16
  have hsame : ∀ (a b : Int) (r : Nat → Int), Q (a, b, r, mem, os) := fun a b r => ⟨rfl, ho⟩
  have hput : ∀ (i : Ins) (x : Int), Q (put1_s p inp pl regs mem os i x) := fun i x => ⟨rfl, ho⟩
  show Q (one_s p inp pl regs mem os)
  unfold one_s
  generalize p.code.getD pl.toNat default = i
  refine bifP (fun _ => hsame _ _ _) fun _ => bifP (fun _ => hsame _ _ _) fun _ => bifP (fun _ => ?_) fun _ => bifP (fun _ => ?_) fun _ => bifP (fun _ => ?_) fun _ => bifP (fun _ => ?_) fun _ => bifP (fun _ => ?_) fun _ => bifP (fun _ => ?_) fun _ => bifP (fun _ => ?_) fun _ => bifP (fun _ => ?_) fun _ => bifP (fun _ => ?_) fun _ => bifP (fun _ => ?_) fun _ => bifP (fun _ => ?_) fun _ => bifP (fun _ => ?_) fun _ => ?_
  · show Q (d_apply_s p inp pl regs mem os i)
    unfold d_apply_s
    exact bifP (fun _ => bifP (fun _ => hsame _ _ _) fun _ => bifP (fun _ => hsame _ _ _) fun _ => hput _ _) fun _ => hput _ _
  · exact hsame _ _ _
  · exact hput _ _
  · exact hput _ _
  · show Q (d_load_s p inp pl regs mem os i)
    unfold d_load_s
    exact bifP (fun _ => hsame _ _ _) fun _ => hput _ _
  · show Q (d_save_s p inp pl regs mem os i)
    unfold d_save_s
    exact bifP (fun _ => ⟨eachS_len .., ho⟩) fun _ => ⟨eachS_len .., ho⟩
  · show Q (d_take_s p inp pl regs mem os i)
    unfold d_take_s
    exact bifP (fun _ => hsame _ _ _) fun _ => hput _ _
  · exact hput _ _
  · exact hsame _ _ _
  · show Q (d_branch_s p inp pl regs mem os i)
    unfold d_branch_s
    exact bifP (fun _ => hsame _ _ _) fun _ => hsame _ _ _
  · show Q (d_call_s p inp pl regs mem os i)
    unfold d_call_s
    refine bifP (fun _ => hsame _ _ _) fun h => ⟨rfl, ?_⟩
    have := of_decide_eq_false h
    have := hv.stack.2
    show (os ++ [pl + 1]).length ≤ 16
    rw [List.length_append]; simp only [List.length_cons, List.length_nil]; omega
  · show Q (d_back_s p inp pl regs mem os i)
    unfold d_back_s
    refine bifP (fun _ => hsame _ _ _) fun h => ⟨rfl, ?_⟩
    show (os.take _).length ≤ 16
    rw [List.length_take]; omega
  · exact hsame _ _ _

end Go.Proofs.Yteolbecihipcaaa.Sx.M5
