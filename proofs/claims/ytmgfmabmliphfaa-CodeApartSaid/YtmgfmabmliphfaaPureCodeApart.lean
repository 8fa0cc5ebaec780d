/- Layer 2's law CodeApart, the plain law: unlike instructions have unlike bytes; of bytes that tell one, each other one byte tells another one, or none. -/
import Derived.Test.YtmgfmabmliphfaaPx25
import Derived.Test.YtmgfmabmliphfaaPureA
namespace Go.Proofs.Ytmgfmabmliphfaa.Pure
open Go.RowKit Go.Proofs.Ytmgfmabmliphfaa.P Go.Proofs.YtmgfmabmliphfaaW.PrintWords Go.Proofs.YtmgfmabmliphfaaW.PrintLast
set_option linter.unusedVariables false

theorem xor_nat (a b : Nat) (ha : a < 256) (hb : b < 256) : Go.bits .xor .u8 (a : Int) (b : Int) = ((a ^^^ b : Nat) : Int) := by
  have ha' : a % 2 ^ IntKind.u8.bits = a := Nat.mod_eq_of_lt ha
  have hb' : b % 2 ^ IntKind.u8.bits = b := Nat.mod_eq_of_lt hb
  have hl : a ^^^ b < 2 ^ 8 := Nat.xor_lt_two_pow ha hb
  simp only [Go.bits, BitVec.ofInt_natCast, BitVec.toNat_xor, BitVec.toNat_ofNat, ha', hb']
  rw [IntKind.wrap_u8]
  omega
theorem xor_u8 (x y : Int) (hx : 0 ≤ x ∧ x ≤ 255) (hy : 0 ≤ y ∧ y ≤ 255) : (0 ≤ Go.bits .xor .u8 x y ∧ Go.bits .xor .u8 x y ≤ 255) ∧ (¬ y = 0 → ¬ Go.bits .xor .u8 x y = x) := by
  obtain ⟨a, rfl⟩ : ∃ a : Nat, x = a := ⟨x.toNat, by omega⟩
  obtain ⟨b, rfl⟩ : ∃ b : Nat, y = b := ⟨y.toNat, by omega⟩
  rw [xor_nat a b (by omega) (by omega)]
  have hl : a ^^^ b < 2 ^ 8 := Nat.xor_lt_two_pow (show a < 2 ^ 8 by omega) (show b < 2 ^ 8 by omega)
  refine ⟨by omega, fun hne he => hne ?_⟩
  have he' : a ^^^ b = a := by omega
  have h2 := congrArg (a ^^^ ·) he'
  simp only [← Nat.xor_assoc, Nat.xor_self, Nat.zero_xor] at h2
  omega

/-- Two rows of bytes that tell the same instruction begin alike. -/
theorem get_same {l m : List Int} (hl : Byt l) (hm : Byt m) (e1 : (getS l).2.2.2.2.2.1 = 0) (e2 : (getS m).2.2.2.2.2.1 = 0) (h : getS l = getS m) : l.take 12 = m.take 12 := by
  obtain ⟨n1, _, _, g1⟩ := get_ok e1
  obtain ⟨n2, _, _, g2⟩ := get_ok e2
  rw [g1, g2] at h
  simp only [Prod.mk.injEq] at h
  obtain ⟨h0, h1, h2, h3, h4, _, _⟩ := h
  rw [split12 n1, split12 n2, h0, h1, h2, h3, ← (be_val (tail8 l) (tail8_len n1) (tail8_byt hl)).1, ← (be_val (tail8 m) (tail8_len n2) (tail8_byt hm)).1, h4]

theorem CodeApart (op a b c i op' a' b' c' i' : Int) (l : List Int) (at_ by_ : Int) (h0 : 0 ≤ i) (h1 : i < 18446744073709551616) (h0' : 0 ≤ i') (h1' : i' < 18446744073709551616) (hb : Byt l) (hby : 0 ≤ by_ ∧ by_ ≤ 255) :
    backreachlaw02_CodeApart.f 60 op a b c i op' a' b' c' i' l at_ by_ = some true := by
  have tail : ∀ k, 45 ≤ k → backreachlaw02_CodeApart.j0 k l at_ by_ false = some true := by
    intro k hk
    obtain ⟨k, rfl⟩ : ∃ m, k = m + 2 := ⟨k - 2, by omega⟩
    simp only [backreachlaw02_CodeApart.j0, backreachlaw02_CodeApart.j1]
    rw [if_neg (show ¬ (false = true) by simp)]
    by_cases c1 : (l.length : Int) < 12
    · rw [if_pos c1]; rfl
    · rw [if_neg c1]
      by_cases c2 : (l.length : Int) > 1000
      · rw [if_pos c2]; rfl
      · rw [if_neg c2]
        by_cases c3 : at_ < 0
        · rw [if_pos c3]; rfl
        · rw [if_neg c3]
          by_cases c4 : at_ > 11
          · rw [if_pos c4]; rfl
          · rw [if_neg c4]
            by_cases c5 : by_ = 0
            · rw [c5]; rfl
            · rw [if_neg (show ¬ ((by_ == 0) = true) by simpa using c5), get_eq k (by omega) l hb]
              simp only [Option.bind_some, List.nil_append]
              have hx := xor_u8 (rd l at_) by_ (rd_byte hb at_) hby
              obtain ⟨p, rfl⟩ : ∃ p : Nat, at_ = p := ⟨at_.toNat, by omega⟩
              have hp : p < l.length := by omega
              have hb' : Byt (l.set p (Go.bits .xor .u8 (rd l p) by_)) := by
                intro x hxm
                rcases List.mem_or_eq_of_mem_set hxm with h | h
                · exact hb x h
                · subst h; exact hx.1
              rw [if_pos (show ([] : List Int).length + l.length < 140737488355328 by simp; omega), if_pos (by omega), if_pos (by omega), Int.toNat_natCast, get_eq k (by omega) _ hb']
              simp only [Option.bind_some]
              by_cases e1 : (getS l).2.2.2.2.2.1 = 0
              · rw [if_pos e1]
                by_cases e2 : (getS (l.set p (Go.bits .xor .u8 (rd l p) by_))).2.2.2.2.2.1 = 0
                · rw [if_pos e2]
                  congr 1
                  have hne : getS l ≠ getS (l.set p (Go.bits .xor .u8 (rd l p) by_)) := by
                    intro h
                    have h2 := get_same hb hb' e1 e2 h
                    have h3 := congrArg (fun z => z[p]?) h2
                    simp only [List.getElem?_take, if_pos (show p < 12 by omega), List.getElem?_set_self hp] at h3
                    refine hx.2 c5 ?_
                    obtain ⟨v, hv⟩ : ∃ v, v = Go.bits .xor .u8 (rd l p) by_ := ⟨_, rfl⟩
                    rw [← hv] at h3 ⊢
                    unfold rd
                    rw [List.getD_eq_getElem?_getD, Int.toNat_natCast, h3]
                    rfl
                  obtain ⟨_, _, _, g1⟩ := get_ok e1
                  obtain ⟨_, _, _, g2⟩ := get_ok e2
                  cases hB : (!((getS l).1 == (getS (l.set p (Go.bits .xor .u8 (rd l p) by_))).1) || (!((getS l).2.1 == (getS (l.set p (Go.bits .xor .u8 (rd l p) by_))).2.1) || (!((getS l).2.2.1 == (getS (l.set p (Go.bits .xor .u8 (rd l p) by_))).2.2.1) || (!((getS l).2.2.2.1 == (getS (l.set p (Go.bits .xor .u8 (rd l p) by_))).2.2.2.1) || (!((getS l).2.2.2.2.1 == (getS (l.set p (Go.bits .xor .u8 (rd l p) by_))).2.2.2.2.1)))))) with
                  | true => rfl
                  | false =>
                    exfalso
                    apply hne
                    simp only [Bool.or_eq_false_iff, Bool.not_eq_false', beq_iff_eq] at hB
                    obtain ⟨q1, q2, q3, q4, q5⟩ := hB
                    rw [g1, g2] at q1 q2 q3 q4 q5 ⊢
                    simp only [] at q1 q2 q3 q4 q5
                    rw [q1, q2, q3, q4, q5]
                · rw [if_neg e2]
              · rw [if_neg e1]
  unfold backreachlaw02_CodeApart.f
  rw [awake_eq 60 (by omega)]
  simp only [Option.bind_some, if_true]
  rw [put_eq 60 (by omega), put_eq 60 (by omega)]
  simp only [Option.bind_some]
  by_cases e1 : (putS op a b c i).2 = 0
  · rw [if_pos e1]
    by_cases e2 : (putS op' a' b' c' i').2 = 0
    · rw [if_pos e2]
      obtain ⟨g1, z1⟩ := put_ok e1
      obtain ⟨g2, z2⟩ := put_ok e2
      obtain ⟨p1, r1, r2, r3⟩ := put_parts g1 z1
      obtain ⟨p2, s1, s2, s3⟩ := put_parts g2 z2
      have hx : Byt ([op, a, b, c] ++ be i) := by
        intro x hx
        rcases List.mem_append.1 hx with hx | hx
        · simp only [List.mem_cons, List.not_mem_nil, or_false] at hx; omega
        · exact be_byt i x hx
      have hy : Byt ([op', a', b', c'] ++ be i') := by
        intro x hx
        rcases List.mem_append.1 hx with hx | hx
        · simp only [List.mem_cons, List.not_mem_nil, or_false] at hx; omega
        · exact be_byt i' x hx
      rw [p1, p2]
      simp only []
      have same : ((strOfNums ([op, a, b, c] ++ be i)).toList == (strOfNums ([op', a', b', c'] ++ be i')).toList) = (op == op' && (a == a' && (b == b' && (c == c' && (i == i'))))) := by
        cases hB : (op == op' && (a == a' && (b == b' && (c == c' && (i == i'))))) with
        | true =>
          simp only [Bool.and_eq_true, beq_iff_eq] at hB
          obtain ⟨rfl, rfl, rfl, rfl, rfl⟩ := hB
          simp
        | false =>
          rw [beq_eq_false_iff_ne]
          intro h
          have hl := nums_inj hx hy h
          simp only [List.cons_append, List.nil_append, List.cons.injEq] at hl
          obtain ⟨rfl, rfl, rfl, rfl, hi⟩ := hl
          have : i = i' := by rw [← val_be i h0 h1, ← val_be i' h0' h1', hi]
          subst this
          simp at hB
      rw [same, bne_self_eq_false]
      exact tail 60 (by omega)
    · rw [if_neg e2]; exact tail 60 (by omega)
  · rw [if_neg e1]; exact tail 60 (by omega)

theorem CodeApart_row (a0_0 a0_1 a0_2 a0_3 a0_4 : Int) (a1_0 a1_1 a1_2 a1_3 a1_4 : Int) (l2 : List Int) (a3 : Int) (a4 : Int) (h0_ : (Lit.int .i64 a0_0).wf = true) (h1_ : (Lit.int .i64 a0_1).wf = true) (h2_ : (Lit.int .i64 a0_2).wf = true) (h3_ : (Lit.int .i64 a0_3).wf = true) (h4_ : (Lit.int .u64 a0_4).wf = true) (h5_ : (Lit.int .i64 a1_0).wf = true) (h6_ : (Lit.int .i64 a1_1).wf = true) (h7_ : (Lit.int .i64 a1_2).wf = true) (h8_ : (Lit.int .i64 a1_3).wf = true) (h9_ : (Lit.int .u64 a1_4).wf = true) (h10_ : l2.length ≤ maxLen) (h11_ : l2.length * 1 ≤ 140737488351232) (h12_ : (∀ x ∈ l2, (Lit.int .u8 x).wf = true)) (h13_ : (Lit.int .i64 a3).wf = true) (h14_ : (Lit.int .u8 a4).wf = true) : ∃ k, backreachlaw02_CodeApart.f k a0_0 a0_1 a0_2 a0_3 a0_4 a1_0 a1_1 a1_2 a1_3 a1_4 l2 a3 a4 = some true :=
  ⟨60, CodeApart _ _ _ _ _ _ _ _ _ _ _ _ _ (u64_of_wf h4_).1 (u64_of_wf h4_).2 (u64_of_wf h9_).1 (u64_of_wf h9_).2 (fun x hx => u8_of_wf (h12_ x hx)) (u8_of_wf h14_)⟩

end Go.Proofs.Ytmgfmabmliphfaa.Pure
