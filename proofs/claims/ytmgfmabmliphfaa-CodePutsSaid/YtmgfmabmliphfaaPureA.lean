/- Layer 2 (code), the plain law: what the program's and the document's functions come to: which part of an instruction is wrong, its bytes, and what bytes tell. -/
import Derived.Test.YtmgfmabmliphfaaPx19
import Derived.Test.YtmgfmabmliphfaaPx20
import Derived.Test.YtmgfmabmliphfaaPx23
import Derived.Test.YtmgfmabmliphfaaPx9
namespace Go.Proofs.Ytmgfmabmliphfaa.Pure
open Go.RowKit Go.Proofs.Ytmgfmabmliphfaa.P Go.Proofs.YtmgfmabmliphfaaW.PrintWords Go.Proofs.YtmgfmabmliphfaaW.PrintLast Go.Proofs.YtmgfmabmliphfaaW.PrintMore
set_option linter.unusedVariables false

def fs : List S47 := (code_forms.f).getD []
theorem forms_eq : code_forms.f = some fs := rfl
theorem fs_len : fs.length = 26 := rfl

/-- What the operation's row says. -/
def hs (op : Int) : Int := (rd_T47 fs op).f1
def hA (op : Int) : Bool := decide (¬ (Go.bits .and .i64 (hs op) 1 = 0))
def hB (op : Int) : Bool := decide (¬ (Go.bits .and .i64 (hs op) 2 = 0))
def hW (op : Int) : Bool := decide (¬ (Go.bits .and .i64 (hs op) 8 = 0))
def hCW (op : Int) : Bool := decide (¬ (Go.bits .and .i64 (hs op) 12 = 0))
def hI (op : Int) : Bool := decide (¬ (Go.bits .and .i64 (hs op) 16 = 0))
/-- May a register, or what isn't one, be so? -/
def okR (h : Bool) (n : Int) : Bool := if h then decide (0 ≤ n ∧ n ≤ 7) else n == 0
def okC (op c : Int) : Bool := if hW op then (c == 1 || c == 2 || c == 4 || c == 8) else okR (hCW op) c
/-- Which part is wrong: 0: none. -/
def W (op a b c i : Int) : Int :=
  if okR (hA op) a = false then 1 else if okR (hB op) b = false then 2 else if okC op c = false then 3 else if hI op = false ∧ ¬ i = 0 then 4 else 0

theorem W_range (op a b c i : Int) : 0 ≤ W op a b c i ∧ W op a b c i ≤ 4 := by
  unfold W; repeat' split
  all_goals omega

theorem kept_eq (k : Nat) (hk : 3 ≤ k) (op a b c i : Int) :
    code_kept.f k op a b c i (hs op) = some (op, if hA op then a else 0, if hB op then b else 0, if hCW op then c else 0, if hI op then i else 0) := by
  obtain ⟨k, rfl⟩ : ∃ m, k = m + 3 := ⟨k - 3, by omega⟩
  unfold code_kept.f
  simp only [code_kept.j0, code_kept.j1, code_kept.j2, hA, hB, hCW, hI]
  by_cases h1 : Go.bits .and .i64 (hs op) 1 = 0 <;> by_cases h2 : Go.bits .and .i64 (hs op) 2 = 0 <;> by_cases h3 : Go.bits .and .i64 (hs op) 12 = 0 <;> by_cases h4 : Go.bits .and .i64 (hs op) 16 = 0 <;> simp [h1, h2, h3, h4]

theorem reg_eq (n : Int) : code_register.f n = some (decide (0 ≤ n ∧ n ≤ 7)) := by
  unfold code_register.f
  by_cases h : n ≥ 0
  · rw [if_pos h]; congr 1; rw [decide_eq_decide]; omega
  · rw [if_neg h]; congr 1; symm; rw [decide_eq_false_iff_not]; omega

theorem hW_CW : ∀ j : Fin 26, hW (j.val : Int) = true → hCW (j.val : Int) = true := by decide +kernel
theorem okR_kept {h : Bool} {n : Int} (e : okR h n = true) : n = (if h then n else 0) ∧ decide (0 ≤ n ∧ n ≤ 7) = true := by
  unfold okR at e
  cases h
  · have : n = 0 := by simpa using e
    subst this; exact ⟨rfl, rfl⟩
  · exact ⟨rfl, by simpa using e⟩
theorem okR_not {h : Bool} {n : Int} (e : okR h n = false) (z : n = (if h then n else 0)) : decide (0 ≤ n ∧ n ≤ 7) = false := by
  unfold okR at e
  cases h
  · have : ¬ n = 0 := by simpa using e
    exact absurd z this
  · simpa using e

theorem wrong_j0 (k : Nat) (op a b c i : Int) (hcw : hW op = true → hCW op = true) :
    code_wrong.j0 (k + 4) (hs op) (c == 1 || c == 2 || c == 4 || c == 8) op a b c i op (if hA op then a else 0) (if hB op then b else 0) (if hCW op then c else 0) (if hI op then i else 0) = some (W op a b c i) := by
  unfold W
  cases eA : okR (hA op) a with
  | false =>
    rw [if_pos rfl]
    simp only [code_wrong.j0]
    by_cases z : a = (if hA op then a else 0)
    · rw [if_pos z, reg_eq, okR_not eA z]; rfl
    · rw [if_neg z]; rfl
  | true =>
    rw [if_neg (show ¬ (true = false) by simp)]
    obtain ⟨zA, dA⟩ := okR_kept eA
    simp only [code_wrong.j0]
    rw [if_pos zA, reg_eq, dA]
    simp only [Option.bind_some, Bool.not_true, code_wrong.j1]
    rw [if_neg (show ¬ (false = true) by simp)]
    cases eB : okR (hB op) b with
    | false =>
      rw [if_pos rfl]
      by_cases z : b = (if hB op then b else 0)
      · rw [if_pos z, reg_eq, okR_not eB z]; rfl
      · rw [if_neg z]; rfl
    | true =>
      rw [if_neg (show ¬ (true = false) by simp)]
      obtain ⟨zB, dB⟩ := okR_kept eB
      rw [if_pos zB, reg_eq, dB]
      simp only [Option.bind_some, Bool.not_true, code_wrong.j2]
      rw [if_neg (show ¬ (false = true) by simp)]
      have hend : okC op c = true → c = (if hCW op then c else 0) → code_wrong.j3 (k + 1) false op a b c i op (if hA op then a else 0) (if hB op then b else 0) (if hCW op then c else 0) (if hI op then i else 0) = some (if okC op c = false then 3 else if hI op = false ∧ ¬ i = 0 then 4 else 0) := by
        intro eC zC
        simp only [code_wrong.j3]
        rw [← zA, ← zB, ← zC, eC, if_neg (show ¬ (false = true) by simp), if_neg (show ¬ (true = false) by simp)]
        cases hI op <;> by_cases z : i = 0 <;> simp [z]
      cases eW : hW op with
      | true =>
        have hw : ¬ Go.bits .and .i64 (hs op) 8 = 0 := by simpa [hW] using eW
        have hc : c = (if hCW op then c else 0) := by rw [hcw eW, if_pos rfl]
        rw [if_pos hc, if_neg hw]
        have ec : okC op c = (c == 1 || c == 2 || c == 4 || c == 8) := by unfold okC; rw [eW, if_pos rfl]
        cases e : (c == 1 || c == 2 || c == 4 || c == 8) with
        | true => rw [if_pos rfl, hend (ec.trans e) hc]
        | false => rw [if_neg (show ¬ (false = true) by simp), if_pos (ec.trans e)]; rfl
      | false =>
        have hw : Go.bits .and .i64 (hs op) 8 = 0 := by simpa [hW] using eW
        have ec : okC op c = okR (hCW op) c := by unfold okC; rw [eW, if_neg (by simp)]
        cases e : okR (hCW op) c with
        | true =>
          obtain ⟨zC, dC⟩ := okR_kept e
          rw [if_pos zC, if_pos hw, reg_eq, dC]
          exact hend (ec.trans e) zC
        | false =>
          rw [if_pos (ec.trans e)]
          by_cases z : c = (if hCW op then c else 0)
          · rw [if_pos z, if_pos hw, reg_eq, okR_not e z]; rfl
          · rw [if_neg z]; rfl

theorem wrong_eq (k : Nat) (hk : 6 ≤ k) (op a b c i : Int) (h0 : 0 ≤ op) (h1 : op ≤ 25) : code_wrong.f k op a b c i = some (W op a b c i) := by
  obtain ⟨k, rfl⟩ : ∃ m, k = m + 6 := ⟨k - 6, by omega⟩
  have hl : op < (fs.length : Int) := by rw [fs_len]; omega
  have hcw : hW op = true → hCW op = true := by
    obtain ⟨j, rfl⟩ : ∃ j : Nat, op = j := ⟨op.toNat, by omega⟩
    exact hW_CW ⟨j, by omega⟩
  unfold code_wrong.f
  rw [forms_eq]
  simp only [Option.bind_some]
  rw [if_pos h0, if_pos hl]
  show (code_kept.f (k + 6) op a b c i (hs op)).bind _ = _
  rw [kept_eq (k + 6) (by omega)]
  simp only [Option.bind_some]
  refine Eq.trans ?_ (wrong_j0 (k + 2) op a b c i hcw)
  by_cases e1 : c = 1
  · rw [if_pos e1]; subst e1; rfl
  · by_cases e2 : c = 2
    · rw [if_neg e1, if_pos e2]; subst e2; rfl
    · by_cases e4 : c = 4
      · rw [if_neg e1, if_neg e2, if_pos e4]; subst e4; rfl
      · rw [if_neg e1, if_neg e2, if_neg e4, show (c == 1) = false by simpa using e1, show (c == 2) = false by simpa using e2, show (c == 4) = false by simpa using e4]; rfl

/-! the document's -/
def sOf (op : Int) : ByteArray := (backreachref02_Has.f 10 op).getD ⟨#[]⟩
theorem ref_table : ∀ j : Fin 26, backreachref02_Has.f 10 (j.val : Int) = some (sOf (j.val : Int)) ∧ backreachref02_in.f 10 (sOf (j.val : Int)) 97 = some (hA (j.val : Int)) ∧ backreachref02_in.f 10 (sOf (j.val : Int)) 98 = some (hB (j.val : Int)) ∧ backreachref02_in.f 10 (sOf (j.val : Int)) 119 = some (hW (j.val : Int)) ∧ (hW (j.val : Int) = false → backreachref02_in.f 10 (sOf (j.val : Int)) 99 = some (hCW (j.val : Int))) ∧ backreachref02_in.f 10 (sOf (j.val : Int)) 105 = some (hI (j.val : Int)) := by decide +kernel
theorem ref_reg {k : Nat} {s : ByteArray} {l n : Int} {h : Bool} (e : backreachref02_in.f k s l = some h) : backreachref02_register.f k s l n = some (okR h n) := by
  unfold backreachref02_register.f okR
  rw [e]
  simp only [Option.bind_some]
  cases h
  · simp
  · rw [if_pos rfl, if_pos rfl]
    by_cases z : n ≥ 0
    · rw [if_pos z]; congr 1; rw [decide_eq_decide]; omega
    · rw [if_neg z]; congr 1; symm; rw [decide_eq_false_iff_not]; omega
theorem ref_wrong_in (k : Nat) (hk : 15 ≤ k) (op a b c i : Int) (h0 : 0 ≤ op) (h1 : op ≤ 25) : backreachref02_Wrong.f k op a b c i = some (if W op a b c i = 0 then -1 else W op a b c i) := by
  obtain ⟨k, rfl⟩ : ∃ m, k = m + 13 := ⟨k - 13, by omega⟩
  obtain ⟨j, rfl⟩ : ∃ j : Nat, op = j := ⟨op.toNat, by omega⟩
  obtain ⟨t0, tA, tB, tW, tC, tI⟩ := ref_table ⟨j, by omega⟩
  unfold backreachref02_Wrong.f
  rw [if_neg (by omega), decide_eq_false (by omega)]
  simp only [backreachref02_Wrong.j0]
  rw [if_neg (show ¬ (false = true) by simp), at_rounds (g := fun k => backreachref02_Has.f k j) (backreachref02_Has.mono _) (show 10 ≤ k + 12 by omega) t0]
  have up : ∀ {q : Nat} {l : Int} {x : Bool}, 10 ≤ q → backreachref02_in.f 10 (sOf (j : Int)) l = some x → backreachref02_in.f q (sOf (j : Int)) l = some x := fun {q} {l} {x} hq e => at_rounds (g := fun k => backreachref02_in.f k (sOf (j : Int)) l) (backreachref02_in.mono _ _) hq e
  simp only [Option.bind_some]
  rw [ref_reg (up (by omega) tA)]
  simp only [Option.bind_some]
  unfold W
  cases eA : okR (hA j) a with
  | false => rw [if_pos rfl, if_neg (show ¬ (false = true) by simp)]; rfl
  | true =>
    rw [if_neg (show ¬ (true = false) by simp), if_pos rfl, ref_reg (up (by omega) tB)]
    simp only [Option.bind_some]
    cases eB : okR (hB j) b with
    | false => rw [if_pos rfl, if_neg (show ¬ (false = true) by simp)]; rfl
    | true =>
      rw [if_neg (show ¬ (true = false) by simp), if_pos rfl, up (by omega) tW]
      simp only [Option.bind_some]
      have hend : ∀ q, 11 ≤ q → okC j c = true → backreachref02_Wrong.j2 q (sOf (j : Int)) j a b c i = some (if (if okC j c = false then (3 : Int) else if hI j = false ∧ ¬ i = 0 then 4 else 0) = 0 then -1 else (if okC j c = false then (3 : Int) else if hI j = false ∧ ¬ i = 0 then 4 else 0)) := by
        intro q hq eC
        obtain ⟨q, rfl⟩ : ∃ m, q = m + 1 := ⟨q - 1, by omega⟩
        simp only [backreachref02_Wrong.j2]
        rw [up (by omega) tI, eC, if_neg (show ¬ (true = false) by simp)]
        simp only [Option.bind_some]
        cases hI j <;> by_cases z : i = 0 <;> simp [z]
      cases eW : hW j with
      | true =>
        rw [if_pos rfl]
        have ec : okC j c = (c == 1 || c == 2 || c == 4 || c == 8) := by unfold okC; rw [eW, if_pos rfl]
        by_cases e1 : c = 1
        · rw [if_pos e1]; simp only [backreachref02_Wrong.j1]; rw [if_neg (show ¬ (false = true) by simp)]; exact hend _ (by omega) (by rw [ec, e1]; rfl)
        · rw [if_neg e1]
          by_cases e2 : c = 2
          · rw [if_pos e2]; simp only [backreachref02_Wrong.j1]; rw [if_neg (show ¬ (false = true) by simp)]; exact hend _ (by omega) (by rw [ec, e2]; rfl)
          · rw [if_neg e2]
            by_cases e4 : c = 4
            · rw [if_pos e4]; simp only [backreachref02_Wrong.j1]; rw [if_neg (show ¬ (false = true) by simp)]; exact hend _ (by omega) (by rw [ec, e4]; rfl)
            · rw [if_neg e4]; simp only [backreachref02_Wrong.j1]
              by_cases e8 : c = 8
              · rw [if_neg (by simp [e8])]; exact hend _ (by omega) (by rw [ec, e8]; rfl)
              · rw [if_pos (by simp [e8]), show okC j c = false by rw [ec]; simp [e1, e2, e4, e8]]; rfl
      | false =>
        rw [if_neg (show ¬ (false = true) by simp), ref_reg (up (by omega) (tC eW))]
        simp only [Option.bind_some]
        have ec : okC j c = okR (hCW j) c := by unfold okC; rw [eW, if_neg (by simp)]
        cases e : okR (hCW j) c with
        | true => rw [if_pos rfl]; exact hend _ (by omega) (ec.trans e)
        | false => rw [if_neg (show ¬ (false = true) by simp), ec, e]; rfl
theorem ref_wrong_out (k : Nat) (hk : 15 ≤ k) (op a b c i : Int) (h : ¬ (0 ≤ op ∧ op ≤ 25)) : backreachref02_Wrong.f k op a b c i = some 0 := by
  obtain ⟨k, rfl⟩ : ∃ m, k = m + 13 := ⟨k - 13, by omega⟩
  unfold backreachref02_Wrong.f
  by_cases h0 : op < 0
  · rw [if_pos h0]; rfl
  · rw [if_neg h0, decide_eq_true (by omega)]; rfl

/-! bytes -/
def be (n : Int) : List Int := [n / 72057594037927936 % 256, n / 281474976710656 % 256, n / 1099511627776 % 256, n / 4294967296 % 256, n / 16777216 % 256, n / 65536 % 256, n / 256 % 256, n % 256]
def val (l : List Int) : Int := l.foldl (fun x b => x * 256 + b) 0
theorem val_be (n : Int) (h0 : 0 ≤ n) (h1 : n < 18446744073709551616) : val (be n) = n := by
  simp only [val, be, List.foldl]
  omega
theorem be_val (l : List Int) (hl : l.length = 8) (hb : ∀ x ∈ l, 0 ≤ x ∧ x ≤ 255) : be (val l) = l ∧ 0 ≤ val l ∧ val l < 18446744073709551616 := by
  match l, hl with
  | [a, b, c, d, e, f, g, h], _ =>
    simp only [List.mem_cons, List.not_mem_nil, or_false, forall_eq_or_imp, forall_eq] at hb
    obtain ⟨⟨_, _⟩, ⟨_, _⟩, ⟨_, _⟩, ⟨_, _⟩, ⟨_, _⟩, ⟨_, _⟩, ⟨_, _⟩, ⟨_, _⟩⟩ := hb
    simp only [val, be, List.foldl]
    refine ⟨?_, by omega, by omega⟩
    simp only [List.cons.injEq, and_true]
    exact ⟨by omega, by omega, by omega, by omega, by omega, by omega, by omega, by omega⟩
/-- What is put. -/
def putS (op a b c i : Int) : List Int × Int :=
  if 0 ≤ op ∧ op ≤ 25 then (if W op a b c i = 0 then ([op % 256, a % 256, b % 256, c % 256] ++ be i, 0) else ([], 5)) else ([], 4)
theorem known_eq (op : Int) : code_known.f op = some (decide (0 ≤ op ∧ op ≤ 25)) := by
  unfold code_known.f
  by_cases h : op ≥ 0
  · rw [if_pos h]; congr 1; rw [decide_eq_decide]; omega
  · rw [if_neg h]; congr 1; symm; rw [decide_eq_false_iff_not]; omega
theorem put_loop (k : Nat) (hk : 10 ≤ k) (p q r s op a b c i : Int) : code_Put.l0 k [p, q, r, s] 56 op a b c i = some ([p, q, r, s] ++ be i, 0) := by
  obtain ⟨k, rfl⟩ : ∃ m, k = m + 10 := ⟨k - 10, by omega⟩
  simp [code_Put.l0, wrap64, shr, IntKind.bits, be]
theorem put_eq (k : Nat) (hk : 15 ≤ k) (op a b c i : Int) : code_Put.f k op a b c i = some (putS op a b c i) := by
  unfold code_Put.f putS
  rw [known_eq]
  simp only [Option.bind_some]
  by_cases h : 0 ≤ op ∧ op ≤ 25
  · rw [if_pos h, if_pos (by simpa using h), wrong_eq k (by omega) _ _ _ _ _ h.1 h.2]
    simp only [Option.bind_some]
    by_cases z : W op a b c i = 0
    · rw [if_pos z, if_pos z]; exact put_loop k (by omega) _ _ _ _ _ _ _ _ _
    · rw [if_neg z, if_neg z]
  · rw [if_neg h, if_neg (by simpa using h)]
theorem ref_put_loop (k : Nat) (hk : 10 ≤ k) (op a b c i : Int) (h0 : 0 ≤ i) (h1 : i < 18446744073709551616) : backreachref02_Put.l0 k (List.replicate 8 0) i 7 op a b c i = some ([op % 256, a % 256, b % 256, c % 256] ++ be i, 0) := by
  obtain ⟨k, rfl⟩ : ∃ m, k = m + 10 := ⟨k - 10, by omega⟩
  have st : ∀ x : Int, 0 ≤ x → x < 18446744073709551616 → (Int.tmod x 256) % 256 = x % 256 ∧ IntKind.u64.wrap (Int.tdiv x 256) = x / 256 := by
    intro x hx0 hx1
    rw [Int.tmod_eq_emod_of_nonneg hx0, Int.tdiv_eq_ediv_of_nonneg hx0]
    refine ⟨by omega, ?_⟩
    simp [IntKind.wrap, IntKind.bits, IntKind.signed]
    omega
  have s0 := st i h0 h1
  have s1 := st (i / 256) (by omega) (by omega)
  have s2 := st (i / 256 / 256) (by omega) (by omega)
  have s3 := st (i / 256 / 256 / 256) (by omega) (by omega)
  have s4 := st (i / 256 / 256 / 256 / 256) (by omega) (by omega)
  have s5 := st (i / 256 / 256 / 256 / 256 / 256) (by omega) (by omega)
  have s6 := st (i / 256 / 256 / 256 / 256 / 256 / 256) (by omega) (by omega)
  have s7 := st (i / 256 / 256 / 256 / 256 / 256 / 256 / 256) (by omega) (by omega)
  simp only [backreachref02_Put.l0, s0.1, s0.2, s1.1, s1.2, s2.1, s2.2, s3.1, s3.2, s4.1, s4.2, s5.1, s5.2, s6.1, s6.2, s7.1, s7.2]
  simp [wrap64, List.replicate, be]
  omega
theorem ref_put_eq (k : Nat) (hk : 15 ≤ k) (op a b c i : Int) (h0 : 0 ≤ i) (h1 : i < 18446744073709551616) : backreachref02_Put.f k op a b c i = some (putS op a b c i) := by
  unfold backreachref02_Put.f putS
  by_cases h : 0 ≤ op ∧ op ≤ 25
  · have hr := W_range op a b c i
    rw [if_pos h, ref_wrong_in k hk _ _ _ _ _ h.1 h.2]
    simp only [Option.bind_some]
    by_cases z : W op a b c i = 0
    · rw [if_pos z, if_pos z, if_neg (by omega), if_neg (by omega), if_pos (by decide)]; exact ref_put_loop k (by omega) _ _ _ _ _ h0 h1
    · rw [if_neg z, if_neg z, if_neg z, if_pos (by omega)]
  · rw [if_neg h, ref_wrong_out k hk _ _ _ _ _ h]; rfl

/-! what bytes tell -/
def Byt (l : List Int) : Prop := ∀ x ∈ l, 0 ≤ x ∧ x ≤ 255
theorem rd_byte {l : List Int} (h : Byt l) (i : Int) : 0 ≤ rd l i ∧ rd l i ≤ 255 := by
  unfold rd
  rw [List.getD_eq_getElem?_getD]
  rcases e : l[i.toNat]? with _ | x
  · simp
  · exact h x (List.mem_of_getElem? e)
theorem wrap_byte {x : Int} (h : 0 ≤ x ∧ x ≤ 255) : wrap64 x = x := by unfold wrap64; omega
/-- The instruction of what the parts say. -/
def tell (op a b c i : Int) : Int × Int × Int × Int × Int × Int × Int :=
  if 0 ≤ op ∧ op ≤ 25 then (if W op a b c i = 0 then (op, a, b, c, i, 0, 0) else (0, 0, 0, 0, 0, 5, W op a b c i)) else (0, 0, 0, 0, 0, 4, 0)
def tail8 (l : List Int) : List Int := (l.take 12).drop 4
def getS (l : List Int) : Int × Int × Int × Int × Int × Int × Int :=
  if (l.length : Int) < 12 then (0, 0, 0, 0, 0, 1, (l.length : Int)) else tell (rd l 0) (rd l 1) (rd l 2) (rd l 3) (val (tail8 l))
theorem tail8_len {l : List Int} (h : 12 ≤ l.length) : (tail8 l).length = 8 := by unfold tail8; rw [List.length_drop, List.length_take]; omega
theorem tail8_byt {l : List Int} (h : Byt l) : Byt (tail8 l) := fun x hx => h x (List.mem_of_mem_take (List.mem_of_mem_drop hx))
def go (x : Int) (l : List Int) : Int := l.foldl (fun x b => x * 256 + b) x
theorem shl_or (x b : Int) (h0 : 0 ≤ x) (h1 : x < 72057594037927936) (hb : 0 ≤ b ∧ b ≤ 255) : Go.bits .or .u64 (IntKind.u64.wrap (x * 256)) (IntKind.u64.wrap b) = x * 256 + b := by
  have w : ∀ n : Int, 0 ≤ n → n < 2 ^ 64 → IntKind.u64.wrap n = n := by
    intro n n0 n1
    have n1' : n < 18446744073709551616 := n1
    simp [IntKind.wrap, IntKind.bits, IntKind.signed]
    omega
  rw [w _ (by omega) (by show x * 256 < 18446744073709551616; omega), w b hb.1 (by show b < 18446744073709551616; omega)]
  exact bits_join .u64 64 (by decide) w 8 (x * 256) b (by omega) (by show x * 256 % 256 = 0; omega) (by show x * 256 < 18446744073709551616; omega) hb.1 (by show b < 256; omega) (by show b < 18446744073709551616; omega)
theorem get_loop (d : Nat) : ∀ (k j : Nat) (y : List Int) (op a b c x : Int), y.length = 8 → Byt y → j + d = 8 → d + 10 < k → 0 ≤ x → x < 2 ^ (8 * j) →
    code_Get.l0 k y 8 j op a b c x = some (tell op a b c (go x (y.drop j))) := by
  induction d with
  | zero =>
    intro k j y op a b c x hy hb hj hk h0 h1
    obtain ⟨k, rfl⟩ : ∃ m, k = m + 1 := ⟨k - 1, by omega⟩
    have : j = 8 := by omega
    subst this
    simp only [code_Get.l0]
    rw [if_neg (by omega), known_eq, List.drop_eq_nil_of_le (by omega)]
    simp only [Option.bind_some, go, List.foldl]
    unfold tell
    by_cases h : 0 ≤ op ∧ op ≤ 25
    · rw [if_pos (by simpa using h), if_pos h, wrong_eq k (by omega) _ _ _ _ _ h.1 h.2]
      simp only [Option.bind_some]
      by_cases z : W op a b c x = 0
      · rw [if_pos z, if_pos z]
      · rw [if_neg z, if_neg z]
    · rw [if_neg (by simpa using h), if_neg h]
  | succ d ih =>
    intro k j y op a b c x hy hb hj hk h0 h1
    obtain ⟨k, rfl⟩ : ∃ m, k = m + 1 := ⟨k - 1, by omega⟩
    simp only [code_Get.l0]
    have hx : x < 72057594037927936 := Int.lt_of_lt_of_le h1 (by
      have : (2 : Int) ^ (8 * j) ≤ 2 ^ 56 := by exact_mod_cast Nat.pow_le_pow_right (by decide) (by omega)
      exact this)
    have hr := rd_byte hb (j : Int)
    have hjl : j < y.length := by omega
    rw [if_pos (by omega), if_pos (by omega), if_pos (by omega), shl_or x _ h0 hx hr, show wrap64 ((j : Int) + 1) = ((j + 1 : Nat) : Int) by unfold wrap64; omega]
    rw [ih k (j + 1) y op a b c _ hy hb (by omega) (by omega) (by omega) ?_]
    · congr 2
      rw [List.drop_eq_getElem_cons hjl]
      simp only [go, List.foldl]
      congr 2
      unfold rd
      rw [List.getD_eq_getElem?_getD, Int.toNat_natCast, List.getElem?_eq_getElem hjl]; rfl
    · rw [show 8 * (j + 1) = 8 * j + 8 by omega, Int.pow_add]
      have : (2 : Int) ^ 8 = 256 := by decide
      rw [this]
      omega
theorem get_eq (k : Nat) (hk : 25 ≤ k) (l : List Int) (hb : Byt l) : code_Get.f k l = some (getS l) := by
  unfold code_Get.f getS
  by_cases h : (l.length : Int) < 12
  · rw [if_pos h, if_pos h]
  · rw [if_neg h, if_neg h, if_pos (by omega), if_pos (by omega), if_pos (by omega), if_pos (by omega), if_pos (by decide), if_pos (by omega)]
    have h8 := tail8_len (l := l) (by omega)
    simp only [Option.bind_some]
    show code_Get.l0 k (tail8 l) ((tail8 l).length : Int) 0 _ _ _ _ 0 = _
    rw [h8, wrap_byte (rd_byte hb 0), wrap_byte (rd_byte hb 1), wrap_byte (rd_byte hb 2), wrap_byte (rd_byte hb 3)]
    exact get_loop 8 k 0 (tail8 l) _ _ _ _ 0 h8 (tail8_byt hb) (by omega) (by omega) (by omega) (by decide)
theorem raw_loop (d : Nat) : ∀ (k j : Nat) (l : List Int) (op a b c x : Int), 12 ≤ l.length → Byt l → j + d = 12 → 4 ≤ j → d < k → 0 ≤ x → x < 2 ^ (8 * (j - 4)) →
    backreachref02_Raw.l0 k l j op a b c x = some (op, a, b, c, go x ((l.take 12).drop j)) := by
  induction d with
  | zero =>
    intro k j l op a b c x hy hb hj h4 hk h0 h1
    obtain ⟨k, rfl⟩ : ∃ m, k = m + 1 := ⟨k - 1, by omega⟩
    have : j = 12 := by omega
    subst this
    simp only [backreachref02_Raw.l0]
    rw [if_neg (by omega), List.drop_eq_nil_of_le (by rw [List.length_take]; omega)]; rfl
  | succ d ih =>
    intro k j l op a b c x hy hb hj h4 hk h0 h1
    obtain ⟨k, rfl⟩ : ∃ m, k = m + 1 := ⟨k - 1, by omega⟩
    simp only [backreachref02_Raw.l0]
    have hx : x < 72057594037927936 := Int.lt_of_lt_of_le h1 (by
      have : (2 : Int) ^ (8 * (j - 4)) ≤ 2 ^ 56 := by exact_mod_cast Nat.pow_le_pow_right (by decide) (by omega)
      exact this)
    have hr := rd_byte hb (j : Int)
    have hjl : j < (l.take 12).length := by rw [List.length_take]; omega
    have w : ∀ n : Int, 0 ≤ n → n < 18446744073709551616 → IntKind.u64.wrap n = n := by
      intro n n0 n1
      simp [IntKind.wrap, IntKind.bits, IntKind.signed]
      omega
    rw [if_pos (by omega), if_pos (by omega), if_pos (by omega), w (x * 256) (by omega) (by omega), w (rd l j) hr.1 (by omega), w _ (by omega) (by omega), show wrap64 ((j : Int) + 1) = ((j + 1 : Nat) : Int) by unfold wrap64; omega]
    rw [ih k (j + 1) l op a b c _ hy hb (by omega) (by omega) (by omega) (by omega) ?_]
    · congr 5
      rw [List.drop_eq_getElem_cons hjl]
      simp only [go, List.foldl]
      congr 2
      unfold rd
      rw [List.getD_eq_getElem?_getD, Int.toNat_natCast, List.getElem_take, List.getElem?_eq_getElem (by omega)]; rfl
    · rw [show 8 * (j + 1 - 4) = 8 * (j - 4) + 8 by omega, Int.pow_add]
      have : (2 : Int) ^ 8 = 256 := by decide
      rw [this]
      omega
theorem ref_get_eq (k : Nat) (hk : 25 ≤ k) (l : List Int) (hb : Byt l) : backreachref02_Get.f k l = some (getS l) := by
  unfold backreachref02_Get.f getS
  by_cases h : (l.length : Int) < 12
  · rw [if_pos h, if_pos h]
  · rw [if_neg h, if_neg h]
    unfold backreachref02_Raw.f
    rw [if_pos (by omega), if_pos (by omega), if_pos (by omega), if_pos (by omega), wrap_byte (rd_byte hb 0), wrap_byte (rd_byte hb 1), wrap_byte (rd_byte hb 2), wrap_byte (rd_byte hb 3)]
    have hrl : backreachref02_Raw.l0 k l 4 (rd l 0) (rd l 1) (rd l 2) (rd l 3) 0 = some (rd l 0, rd l 1, rd l 2, rd l 3, val (tail8 l)) := raw_loop 8 k 4 l (rd l 0) (rd l 1) (rd l 2) (rd l 3) 0 (by omega) hb (by omega) (by omega) (by omega) (by omega) (by decide)
    rw [hrl]
    simp only [Option.bind_some]
    show (backreachref02_Wrong.f k (rd l 0) (rd l 1) (rd l 2) (rd l 3) (val (tail8 l))).bind _ = some (tell (rd l 0) (rd l 1) (rd l 2) (rd l 3) (val (tail8 l)))
    unfold tell
    by_cases h2 : 0 ≤ rd l 0 ∧ rd l 0 ≤ 25
    · have hr := W_range (rd l 0) (rd l 1) (rd l 2) (rd l 3) (val (tail8 l))
      rw [if_pos h2, ref_wrong_in k (by omega) _ _ _ _ _ h2.1 h2.2]
      simp only [Option.bind_some]
      by_cases z : W (rd l 0) (rd l 1) (rd l 2) (rd l 3) (val (tail8 l)) = 0
      · rw [if_pos z, if_pos z, if_neg (by omega), if_neg (by omega)]
      · rw [if_neg z, if_neg z, if_neg z, if_pos (by omega)]
    · rw [if_neg h2, ref_wrong_out k (by omega) _ _ _ _ _ h2]; rfl

/-! both ways -/
theorem W_zero {op a b c i : Int} (h : W op a b c i = 0) : okR (hA op) a = true ∧ okR (hB op) b = true ∧ okC op c = true := by
  unfold W at h
  cases eA : okR (hA op) a with
  | false => rw [eA, if_pos rfl] at h; omega
  | true =>
    cases eB : okR (hB op) b with
    | false => rw [eA, eB, if_neg (show ¬ (true = false) by simp), if_pos rfl] at h; omega
    | true =>
      cases eC : okC op c with
      | false => rw [eA, eB, eC, if_neg (show ¬ (true = false) by simp), if_neg (show ¬ (true = false) by simp), if_pos rfl] at h; omega
      | true => exact ⟨rfl, rfl, rfl⟩
theorem okR_range {h : Bool} {n : Int} (e : okR h n = true) : 0 ≤ n ∧ n ≤ 7 := by
  have := (okR_kept e).2
  simpa using this
theorem okC_range {op c : Int} (e : okC op c = true) : 0 ≤ c ∧ c ≤ 8 := by
  unfold okC at e
  cases hw : hW op
  · rw [hw, if_neg (show ¬ (false = true) by simp)] at e
    have := okR_range e; omega
  · rw [hw, if_pos rfl] at e
    simp only [Bool.or_eq_true, beq_iff_eq] at e
    omega
/-- What is put, whole: twelve bytes. -/
theorem put_parts {op a b c i : Int} (h : 0 ≤ op ∧ op ≤ 25) (z : W op a b c i = 0) : putS op a b c i = ([op, a, b, c] ++ be i, 0) ∧ (0 ≤ a ∧ a ≤ 7) ∧ (0 ≤ b ∧ b ≤ 7) ∧ 0 ≤ c ∧ c ≤ 8 := by
  obtain ⟨e1, e2, e3⟩ := W_zero z
  have r1 := okR_range e1
  have r2 := okR_range e2
  have r3 := okC_range e3
  refine ⟨?_, r1, r2, r3⟩
  unfold putS
  rw [if_pos h, if_pos z, show op % 256 = op by omega, show a % 256 = a by omega, show b % 256 = b by omega, show c % 256 = c by omega]
theorem put_ok {op a b c i : Int} (h : (putS op a b c i).2 = 0) : (0 ≤ op ∧ op ≤ 25) ∧ W op a b c i = 0 := by
  unfold putS at h
  by_cases h1 : 0 ≤ op ∧ op ≤ 25
  · by_cases z : W op a b c i = 0
    · exact ⟨h1, z⟩
    · rw [if_pos h1, if_neg z] at h; cases h
  · rw [if_neg h1] at h; cases h
theorem be_byt (i : Int) : Byt (be i) := by
  intro x hx
  simp only [be, List.mem_cons, List.not_mem_nil, or_false] at hx
  omega
theorem get_put {op a b c i : Int} (rest : List Int) (h : 0 ≤ op ∧ op ≤ 25) (z : W op a b c i = 0) (h0 : 0 ≤ i) (h1 : i < 18446744073709551616) : getS ([op, a, b, c] ++ be i ++ rest) = (op, a, b, c, i, 0, 0) := by
  unfold getS
  rw [if_neg (by simp [be]; omega)]
  have ht : tail8 ([op, a, b, c] ++ be i ++ rest) = be i := by simp [tail8, be]
  rw [ht, val_be i h0 h1]
  show tell op a b c i = _
  unfold tell
  rw [if_pos h, if_pos z]
theorem get_ok {l : List Int} (h : (getS l).2.2.2.2.2.1 = 0) : 12 ≤ l.length ∧ (0 ≤ rd l 0 ∧ rd l 0 ≤ 25) ∧ W (rd l 0) (rd l 1) (rd l 2) (rd l 3) (val (tail8 l)) = 0 ∧ getS l = (rd l 0, rd l 1, rd l 2, rd l 3, val (tail8 l), 0, 0) := by
  unfold getS at h ⊢
  by_cases hl : (l.length : Int) < 12
  · rw [if_pos hl] at h; cases h
  · rw [if_neg hl] at h ⊢
    unfold tell at h ⊢
    by_cases h1 : 0 ≤ rd l 0 ∧ rd l 0 ≤ 25
    · by_cases z : W (rd l 0) (rd l 1) (rd l 2) (rd l 3) (val (tail8 l)) = 0
      · rw [if_pos h1, if_pos z]
        exact ⟨by omega, h1, z, rfl⟩
      · rw [if_pos h1, if_neg z] at h; cases h
    · rw [if_neg h1] at h; cases h
theorem split12 {l : List Int} (h : 12 ≤ l.length) : l.take 12 = [rd l 0, rd l 1, rd l 2, rd l 3] ++ tail8 l := by
  match l, h with
  | a :: b :: c :: d :: r, _ => simp [tail8, rd]
theorem nums_inj {xs ys : List Int} (hx : Byt xs) (hy : Byt ys) (h : (strOfNums xs).toList = (strOfNums ys).toList) : xs = ys := by
  rw [ByteArray.toList_eq, ByteArray.toList_eq, strOfNums_data, strOfNums_data] at h
  have hl : xs.length = ys.length := by simpa using congrArg List.length h
  apply List.ext_getElem hl
  intro j h1 h2
  have e := congrArg (fun l => l[j]?) h
  simp only [List.getElem?_map, List.getElem?_eq_getElem h1, List.getElem?_eq_getElem h2, Option.map_some, Option.some.injEq] at e
  have b1 := hx _ (List.getElem_mem h1)
  have b2 := hy _ (List.getElem_mem h2)
  have e2 := congrArg UInt8.toNat e
  rw [UInt8.toNat_ofNat', UInt8.toNat_ofNat'] at e2
  omega
theorem awake_40 : backreachlaw02_awake.f 40 = some true := by decide +kernel
theorem awake_eq (k : Nat) (hk : 40 ≤ k) : backreachlaw02_awake.f k = some true := at_rounds backreachlaw02_awake.mono hk awake_40
theorem u8_of_wf {x : Int} (h : (Lit.int .u8 x).wf = true) : 0 ≤ x ∧ x ≤ 255 := by
  simp only [Lit.wf, Bool.and_eq_true, decide_eq_true_eq] at h
  have h1 : IntKind.u8.min = 0 := rfl
  have h2 : IntKind.u8.max = 255 := rfl
  omega
theorem u64_of_wf {x : Int} (h : (Lit.int .u64 x).wf = true) : 0 ≤ x ∧ x < 18446744073709551616 := by
  simp only [Lit.wf, Bool.and_eq_true, decide_eq_true_eq] at h
  have h1 : IntKind.u64.min = 0 := rfl
  have h2 : IntKind.u64.max = 18446744073709551615 := rfl
  omega
end Go.Proofs.Ytmgfmabmliphfaa.Pure
