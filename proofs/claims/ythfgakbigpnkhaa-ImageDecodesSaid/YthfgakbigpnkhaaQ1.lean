/- Layer 2 (code): what the program's and the document's functions come to. -/
import Derived.Test.YthfgakbigpnkhaaC1b
open Go Go.Proofs Go.RowKit
namespace Go.Proofs.Ythfgakbigpnkhaa.Sx.C3
set_option linter.unusedVariables false
set_option linter.unusedSimpArgs false
/-- What an operation's row says. -/
def hs (op : Int) : Int := (forms_s.getD op.toNat default).has
def hA (op : Int) : Bool := Go.bits .and .i64 (hs op) 1 != (0 : Int)
def hB (op : Int) : Bool := Go.bits .and .i64 (hs op) 2 != (0 : Int)
def hW (op : Int) : Bool := Go.bits .and .i64 (hs op) 8 != (0 : Int)
def hCW (op : Int) : Bool := Go.bits .and .i64 (hs op) 12 != (0 : Int)
def hI (op : Int) : Bool := Go.bits .and .i64 (hs op) 16 != (0 : Int)
/-- May a register, or what isn't one, be so? -/
def okR (h : Bool) (n : Int) : Bool := bif h then register_s n else n == 0
def wideB (c : Int) : Bool := c == 1 || (c == 2 || (c == 4 || c == 8))
def okC (op c : Int) : Bool := bif hW op then wideB c else okR (hCW op) c
/-- Which part is wrong: 0: none. -/
def W (i : Ins) : Int :=
  bif okR (hA i.op) i.a then (bif okR (hB i.op) i.b then (bif okC i.op i.c then (bif !hI i.op && i.imm != 0 then 4 else 0) else 3) else 2) else 1
theorem W_range (i : Ins) : 0 ≤ W i ∧ W i ≤ 4 := by
  unfold W
  cases okR (hA i.op) i.a <;> cases okR (hB i.op) i.b <;> cases okC i.op i.c <;> cases (!hI i.op && i.imm != 0) <;> simp
theorem kept_eq (i : Ins) : kept_s i ((forms_s.getD i.op.toNat default).has) = ⟨i.op, bif hA i.op then i.a else 0, bif hB i.op then i.b else 0, bif hCW i.op then i.c else 0, bif hI i.op then i.imm else 0⟩ := by
  unfold kept_s hA hB hCW hI hs
  cases (Go.bits .and .i64 (forms_s.getD i.op.toNat default).has 1 != (0 : Int)) <;> cases (Go.bits .and .i64 (forms_s.getD i.op.toNat default).has 2 != (0 : Int)) <;> cases (Go.bits .and .i64 (forms_s.getD i.op.toNat default).has 12 != (0 : Int)) <;> cases (Go.bits .and .i64 (forms_s.getD i.op.toNat default).has 16 != (0 : Int)) <;> rfl
theorem regstep (h : Bool) (n e X : Int) : (bif n != (bif h then n else 0) then e else (bif !(register_s n) then e else X)) = (bif okR h n then X else e) := by
  unfold okR
  cases h with
  | true => cases hr : register_s n <;> simp [hr]
  | false =>
    by_cases z : n = 0
    · subst z; rfl
    · have : (n == 0) = false := by simpa using z
      simp [this, bne]
theorem hW_CW : ∀ j : _root_.Fin 26, hW (j.val : Int) = true → hCW (j.val : Int) = true := by decide +kernel
theorem endstep (i : Ins) (k : Ins) (ha : i.a = k.a) (hb : i.b = k.b) (hc : i.c = k.c) (ho : i.op = k.op) : (!(i.op == k.op && (i.a == k.a && (i.b == k.b && (i.c == k.c && (i.imm == k.imm)))))) = (i.imm != k.imm) := by
  rw [ha, hb, hc, ho]; simp [bne]
theorem okR_t {h : Bool} {n : Int} (e : okR h n = true) : n = (bif h then n else 0) := by
  unfold okR at e
  cases h with
  | true => rfl
  | false => simpa using e
theorem wrongC (i : Ins) (w : Bool) (hcw : hW i.op = true → hCW i.op = true) (hw : w = wideB i.c) : wrong_c4 i w = W i := by
  unfold wrong_c4 W
  rw [kept_eq]
  simp only
  simp only [regstep]
  cases eA : okR (hA i.op) i.a with
  | false => cases w <;> rfl
  | true =>
  cases eB : okR (hB i.op) i.b with
  | false => cases w <;> rfl
  | true =>
  simp only [cond_true]
  have zA := okR_t eA
  have zB := okR_t eB
  have hend : ∀ c', i.c = c' → (bif !(i.op == i.op && (i.a == (bif hA i.op then i.a else 0) && (i.b == (bif hB i.op then i.b else 0) && (i.c == c' && (i.imm == (bif hI i.op then i.imm else 0)))))) then (4 : Int) else 0) = (bif !hI i.op && i.imm != 0 then 4 else 0) := by
    intro c' hc
    rw [← zA, ← zB, ← hc]
    cases hI i.op <;> simp [bne]
  unfold okC
  have e8 : (Go.bits .and .i64 (forms_s.getD i.op.toNat default).has 8 != (0 : Int)) = hW i.op := rfl
  have e8' : (Go.bits .and .i64 (forms_s.getD i.op.toNat default).has 8 == (0 : Int)) = !hW i.op := by rw [← e8]; simp [bne]
  rw [e8, e8']
  cases eW : hW i.op with
  | true =>
    have hc := hcw eW
    rw [hc]
    simp only [cond_true, bne_self_eq_false, cond_false, Bool.not_true]
    subst hw
    cases hwd : wideB i.c with
    | true => simp only [cond_true]; exact hend _ rfl
    | false => rfl
  | false =>
    simp only [cond_false, Bool.not_false, cond_true]
    have key : ∀ X : Int, (bif i.c != (bif hCW i.op then i.c else 0) then (3 : Int) else (bif !(register_s i.c) then 3 else X)) = (bif okR (hCW i.op) i.c then X else 3) := fun X => regstep _ _ _ _
    rw [key]
    cases eC : okR (hCW i.op) i.c with
    | false => cases w <;> rfl
    | true =>
      simp only [cond_true]
      have := hend _ (okR_t eC)
      cases w <;> exact this
theorem wrong_eq {i : Ins} (h0 : 0 ≤ i.op) (h1 : i.op < 26) : wrong_s i = W i := by
  have hcw : hW i.op = true → hCW i.op = true := by
    intro h
    have e : ((i.op.toNat : Nat) : Int) = i.op := by omega
    have := hW_CW ⟨i.op.toNat, by omega⟩
    simp only [e] at this
    exact this h
  unfold wrong_s
  cases e1 : (i.c == (1 : Int)) with
  | true => exact wrongC i true hcw (by unfold wideB; rw [e1]; rfl)
  | false =>
  cases e2 : (i.c == (2 : Int)) with
  | true => exact wrongC i true hcw (by unfold wideB; rw [e1, e2]; rfl)
  | false =>
  cases e4 : (i.c == (4 : Int)) with
  | true => exact wrongC i true hcw (by unfold wideB; rw [e1, e2, e4]; rfl)
  | false => exact wrongC i _ hcw (by unfold wideB; rw [e1, e2, e4]; rfl)

/-! the document's -/
theorem ref_table : ∀ j : _root_.Fin 26, in2_s (has_s (j.val : Int)) 97 = hA (j.val : Int) ∧ in2_s (has_s (j.val : Int)) 98 = hB (j.val : Int) ∧ in2_s (has_s (j.val : Int)) 119 = hW (j.val : Int) ∧ (hW (j.val : Int) = false → in2_s (has_s (j.val : Int)) 99 = hCW (j.val : Int)) ∧ in2_s (has_s (j.val : Int)) 105 = hI (j.val : Int) := by decide +kernel
theorem reg2 (s : ByteArray) (c n : Int) : register2_s s c n = okR (in2_s s c) n := by
  unfold register2_s okR register_s
  cases in2_s s c with
  | false => rfl
  | true =>
    simp only [cond_true]
    cases decide (n ≥ (0 : Int)) with
    | false => rfl
    | true =>
      simp only [cond_true]
      rw [decide_eq_decide]; omega
/-- What the document says of it: 0: no such operation; -1: right. -/
def W2 (i : Ins) : Int := bif decide (0 ≤ i.op ∧ i.op < 26) then (bif W i == 0 then -1 else W i) else 0
theorem rwrong_eq (i : Ins) : rwrong_s i = W2 i := by
  unfold rwrong_s W2
  by_cases h : 0 ≤ i.op ∧ i.op < 26
  · rw [decide_eq_false (by omega), decide_eq_false (by omega), decide_eq_true h]
    simp only [cond_true, cond_false]
    have e : ((i.op.toNat : Nat) : Int) = i.op := by omega
    have ht := ref_table ⟨i.op.toNat, by omega⟩
    simp only [e] at ht
    obtain ⟨tA, tB, tW, tC, tI⟩ := ht
    rw [reg2, reg2, reg2, tA, tB, tW, tI]
    unfold W
    cases eA : okR (hA i.op) i.a with
    | false => rfl
    | true =>
    cases eB : okR (hB i.op) i.b with
    | false => rfl
    | true =>
    simp only [Bool.not_true, cond_false, cond_true]
    have hend : (bif !hI i.op then (bif i.imm != (0 : Int) then (4 : Int) else -1) else -1) = (bif (bif !hI i.op && i.imm != 0 then (4 : Int) else 0) == 0 then -1 else (bif !hI i.op && i.imm != 0 then 4 else 0)) := by
      cases hI i.op <;> cases (i.imm != (0 : Int)) <;> rfl
    unfold okC
    cases eW : hW i.op with
    | true =>
      simp only [cond_true]
      unfold wideB
      cases e1 : (i.c == (1 : Int)) with
      | true =>
        rw [show (i.c != (1 : Int)) = false by simp [bne, e1]]
        simp only [cond_false, Bool.true_or, cond_true]; exact hend
      | false =>
      rw [show (i.c != (1 : Int)) = true by simp [bne, e1]]
      cases e2 : (i.c == (2 : Int)) with
      | true =>
        rw [show (i.c != (2 : Int)) = false by simp [bne, e2]]
        simp only [cond_false, Bool.true_or, Bool.false_or, cond_true]; exact hend
      | false =>
      rw [show (i.c != (2 : Int)) = true by simp [bne, e2]]
      cases e4 : (i.c == (4 : Int)) with
      | true =>
        rw [show (i.c != (4 : Int)) = false by simp [bne, e4]]
        simp only [cond_false, Bool.true_or, Bool.false_or, cond_true]; exact hend
      | false =>
      rw [show (i.c != (4 : Int)) = true by simp [bne, e4]]
      cases e8 : (i.c == (8 : Int)) with
      | true =>
        rw [show (i.c != (8 : Int)) = false by simp [bne, e8]]
        simp only [cond_false, Bool.false_or, cond_true]; exact hend
      | false =>
        rw [show (i.c != (8 : Int)) = true by simp [bne, e8]]
        rfl
    | false =>
      simp only [cond_false]
      rw [tC eW]
      cases eC : okR (hCW i.op) i.c with
      | false => rfl
      | true =>
        simp only [Bool.not_true, cond_false, cond_true]; exact hend
  · rw [decide_eq_false h]
    by_cases h0 : i.op < 0
    · rw [decide_eq_true h0]; rfl
    · rw [decide_eq_false h0, decide_eq_true (by omega)]; rfl

/-! bytes -/
def be (n : Int) : List Int := [n / 72057594037927936 % 256, n / 281474976710656 % 256, n / 1099511627776 % 256, n / 4294967296 % 256, n / 16777216 % 256, n / 65536 % 256, n / 256 % 256, n % 256]
def val (l : List Int) : Int := l.foldl (fun x b => x * 256 + b) 0
theorem val_be (n : Int) (h0 : 0 ≤ n) (h1 : n < 18446744073709551616) : val (be n) = n := by
  simp only [val, be, List.foldl]
  omega
theorem be_val (l : List Int) (hl : l.length = 8) (hb : Bytes l) : be (val l) = l ∧ 0 ≤ val l ∧ val l < 18446744073709551616 := by
  match l, hl with
  | [a, b, c, d, e, f, g, h], _ =>
    simp only [Bytes, List.mem_cons, List.not_mem_nil, or_false, forall_eq_or_imp, forall_eq] at hb
    obtain ⟨⟨_, _⟩, ⟨_, _⟩, ⟨_, _⟩, ⟨_, _⟩, ⟨_, _⟩, ⟨_, _⟩, ⟨_, _⟩, ⟨_, _⟩⟩ := hb
    simp only [val, be, List.foldl]
    refine ⟨?_, by omega, by omega⟩
    simp only [List.cons.injEq, and_true]
    exact ⟨by omega, by omega, by omega, by omega, by omega, by omega, by omega, by omega⟩
/-- What is put. -/
def putS (i : Ins) : List Int × Int :=
  bif known_s i.op then (bif W i == 0 then ([i.op % 256, i.a % 256, i.b % 256, i.c % 256] ++ be i.imm, 0) else ([], 5)) else ([], 4)
theorem wu8 (x : Int) : IntKind.u8.wrap x = x % 256 := by simp [IntKind.wrap, IntKind.bits, IntKind.signed]
theorem known_iff {n : Int} : known_s n = decide (0 ≤ n ∧ n < 26) := by
  unfold known_s
  cases h : decide (n ≥ (0 : Int)) with
  | false => have := of_decide_eq_false h; symm; exact decide_eq_false (by omega)
  | true => have := of_decide_eq_true h; simp only [cond_true]; rw [decide_eq_decide]; omega
theorem put_eq (i : Ins) : put_s i = putS i := by
  unfold put_s putS
  cases hk : known_s i.op with
  | false => rfl
  | true =>
    have := known_t hk
    rw [wrong_eq this.1 this.2]
    simp only [Bool.not_true, cond_false, cond_true]
    cases hw : (W i == (0 : Int)) with
    | false => rw [show (W i != (0 : Int)) = true by simp [bne, hw]]; rfl
    | true =>
      rw [show (W i != (0 : Int)) = false by simp [bne, hw]]
      simp only [cond_false, cond_true]
      simp [put_l0, wu8, be, Int.fdiv_eq_ediv_of_nonneg]
theorem rput_eq {i : Ins} (h0 : 0 ≤ i.imm) (h1 : i.imm < 18446744073709551616) : rput_s i = putS i := by
  unfold rput_s putS
  rw [rwrong_eq, known_iff]
  unfold W2
  cases hk : decide (0 ≤ i.op ∧ i.op < 26) with
  | false => rfl
  | true =>
    simp only [cond_true]
    have hr := W_range i
    cases hw : (W i == (0 : Int)) with
    | false =>
      have hne : W i ≠ 0 := by simpa using hw
      simp only [cond_false]
      rw [hw, decide_eq_true (by omega)]; rfl
    | true =>
      simp only [cond_true]
      have st : ∀ x : Int, 0 ≤ x → x < 18446744073709551616 → IntKind.u8.wrap (Int.tmod x 256) = x % 256 ∧ IntKind.u64.wrap (Int.tdiv x 256) = x / 256 := by
        intro x hx0 hx1
        rw [wu8, Int.tmod_eq_emod_of_nonneg hx0, Int.tdiv_eq_ediv_of_nonneg hx0]
        refine ⟨by omega, ?_⟩
        simp [IntKind.wrap, IntKind.bits, IntKind.signed]
        omega
      have s0 := st i.imm h0 h1
      have s1 := st (i.imm / 256) (by omega) (by omega)
      have s2 := st (i.imm / 256 / 256) (by omega) (by omega)
      have s3 := st (i.imm / 256 / 256 / 256) (by omega) (by omega)
      have s4 := st (i.imm / 256 / 256 / 256 / 256) (by omega) (by omega)
      have s5 := st (i.imm / 256 / 256 / 256 / 256 / 256) (by omega) (by omega)
      have s6 := st (i.imm / 256 / 256 / 256 / 256 / 256 / 256) (by omega) (by omega)
      have s7 := st (i.imm / 256 / 256 / 256 / 256 / 256 / 256 / 256) (by omega) (by omega)
      rw [show ((-1 : Int) == 0) = false from rfl, decide_eq_false (by omega)]
      simp only [cond_false]
      simp [rput_l0, s0, s1, s2, s3, s4, s5, s6, s7, wu8, be, List.replicate]
      omega
end Go.Proofs.Ythfgakbigpnkhaa.Sx.C3
