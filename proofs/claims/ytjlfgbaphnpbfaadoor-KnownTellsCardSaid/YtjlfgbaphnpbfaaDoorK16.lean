/- KnownTells: the table, Apply, and the law. -/
import Derived.Test.YtjlfgbaphnpbfaaDoorK15
open Go Go.Proofs Go.RowKit
namespace Go.Proofs.YtjlfgbaphnpbfaaDoor.Sx.M5
set_option linter.unusedVariables false
set_option linter.unusedSimpArgs false
section
variable {W Z O Y P : Nat} {x y : Nat → Int}
theorem and_w {a b : Nat} (hW : W ≤ 64) (ha : a < 2 ^ W) (hb : b < 2 ^ W) : Go.bits .and .u64 (a : Int) (b : Int) = ((a &&& b : Nat) : Int) := and_nat _ _ (Nat.lt_of_lt_of_le ha (pow_le64 hW)) (Nat.lt_of_lt_of_le hb (pow_le64 hW))
theorem or_w {a b : Nat} (hW : W ≤ 64) (ha : a < 2 ^ W) (hb : b < 2 ^ W) : Go.bits .or .u64 (a : Int) (b : Int) = ((a ||| b : Nat) : Int) := or_nat _ _ (Nat.lt_of_lt_of_le ha (pow_le64 hW)) (Nat.lt_of_lt_of_le hb (pow_le64 hW))
theorem xor_w {a b : Nat} (hW : W ≤ 64) (ha : a < 2 ^ W) (hb : b < 2 ^ W) : Go.bits .xor .u64 (a : Int) (b : Int) = ((a ^^^ b : Nat) : Int) := xor_nat _ _ (Nat.lt_of_lt_of_le ha (pow_le64 hW)) (Nat.lt_of_lt_of_le hb (pow_le64 hW))
theorem kof1 : kof_s 1 0 = (1, 0) := by
  have e := kof_eq 1 (x := 0) (by decide)
  exact e
theorem zero_row (r : Nat → Int) (h : r = qnon_s) (k : Int × Int) (hk : k = (0, 0)) : ∃ A B : Nat, k = ((A : Int), (B : Int)) ∧ RowIs r A B ∧ OkB W A B := ⟨0, 0, hk, h ▸ qnon_is, OkB.zero W⟩
set_option maxHeartbeats 1000000 in
theorem tab_row (op : Int) (hW1 : 1 ≤ W) (hW : W ≤ 64) (h1 : OkB W Z O) (h2 : RowIs x Z O) (h3 : OkB W Y P) (h4 : RowIs y Y P) :
    ∃ A B : Nat, ktab_s (Z : Int) (O : Int) (W : Int) (Y : Int) (P : Int) (W : Int) op = ((A : Int), (B : Int)) ∧ RowIs (qrow_s op (W : Int) x y) A B ∧ OkB W A B := by
  by_cases o5 : op = 5
  · subst o5
    obtain ⟨a, b⟩ := row5 (y := y) hW h1 h2
    exact ⟨O, Z, by simp only [ktab_s, Int.reduceBEq, cond_true, cond_false], a, b⟩
  by_cases o13 : op = 13
  · subst o13
    obtain ⟨a, b⟩ := row13 hW h1 h2 h3 h4
    exact ⟨_, _, by simp only [ktab_s, Int.reduceBEq, cond_true, cond_false]; rw [or_w hW h1.lz h3.lz, and_w hW h1.lo h3.lo], a, b⟩
  by_cases o14 : op = 14
  · subst o14
    obtain ⟨a, b⟩ := row14 hW h1 h2 h3 h4
    exact ⟨_, _, by simp only [ktab_s, Int.reduceBEq, cond_true, cond_false]; rw [and_w hW h1.lz h3.lz, or_w hW h1.lo h3.lo], a, b⟩
  by_cases o15 : op = 15
  · subst o15
    obtain ⟨a, b⟩ := row15 hW h1 h2 h3 h4
    have l1 : Z ||| O < 2 ^ W := Nat.or_lt_two_pow h1.lz h1.lo
    have l2 : Y ||| P < 2 ^ W := Nat.or_lt_two_pow h3.lz h3.lo
    have l3 : O ^^^ P < 2 ^ W := Nat.xor_lt_two_pow h1.lo h3.lo
    have l4 : (O ^^^ P) &&& (Z ||| O) < 2 ^ W := Nat.and_lt_two_pow _ l1
    have l5 : ((O ^^^ P) &&& (Z ||| O)) &&& (Y ||| P) < 2 ^ W := Nat.and_lt_two_pow _ l2
    have l6 : (Z ||| O) &&& (Y ||| P) < 2 ^ W := Nat.and_lt_two_pow _ l2
    have hp := pow_le64 hW
    exact ⟨_, _, by
      simp only [ktab_s, Int.reduceBEq, cond_true, cond_false, kall_s]
      rw [or_w hW h1.lz h1.lo, or_w hW h3.lz h3.lo, xor_w hW h1.lo h3.lo, and_w hW l3 l1, and_w hW l4 l2, and_w hW l1 l2, andNot_nat _ _ (Nat.lt_of_lt_of_le l6 hp) (Nat.lt_of_lt_of_le l5 hp)]
      rfl, a, b⟩
  by_cases o8 : op = 8
  · subst o8
    obtain ⟨A, B, e1, e2, e3⟩ := sum_row 8 hW1 hW h1 h2 h3 h4
    exact ⟨A, B, by simp only [ktab_s, Int.reduceBEq, cond_true, cond_false]; exact e1, by simp only [qrow_s, Int.reduceBEq, cond_true, cond_false]; exact e2, e3⟩
  by_cases o9 : op = 9
  · subst o9
    obtain ⟨A, B, e1, e2, e3⟩ := sum_row 9 hW1 hW h1 h2 h3 h4
    exact ⟨A, B, by simp only [ktab_s, Int.reduceBEq, cond_true, cond_false]; exact e1, by simp only [qrow_s, Int.reduceBEq, cond_true, cond_false]; exact e2, e3⟩
  by_cases o10 : op = 10
  · subst o10
    obtain ⟨A, B, e1, e2, e3⟩ := sum_row 10 hW1 hW h1 h2 h3 h4
    exact ⟨A, B, by simp only [ktab_s, Int.reduceBEq, cond_true, cond_false]; exact e1, by simp only [qrow_s, Int.reduceBEq, cond_true, cond_false]; exact e2, e3⟩
  by_cases o16 : op = 16
  · subst o16
    obtain ⟨A, B, e1, e2, e3⟩ := shift_row 16 (.inl rfl) hW1 hW h1 h2 h3 h4
    exact ⟨A, B, by simp only [ktab_s, Int.reduceBEq, cond_true, cond_false]; exact e1, by simp only [qrow_s, Int.reduceBEq, cond_true, cond_false]; exact e2, e3⟩
  by_cases o17 : op = 17
  · subst o17
    obtain ⟨A, B, e1, e2, e3⟩ := shift_row 17 (.inr (.inl rfl)) hW1 hW h1 h2 h3 h4
    exact ⟨A, B, by simp only [ktab_s, Int.reduceBEq, cond_true, cond_false]; exact e1, by simp only [qrow_s, Int.reduceBEq, cond_true, cond_false]; exact e2, e3⟩
  by_cases o18 : op = 18
  · subst o18
    obtain ⟨A, B, e1, e2, e3⟩ := shift_row 18 (.inr (.inr rfl)) hW1 hW h1 h2 h3 h4
    exact ⟨A, B, by simp only [ktab_s, Int.reduceBEq, cond_true, cond_false]; exact e1, by simp only [qrow_s, Int.reduceBEq, cond_true, cond_false]; exact e2, e3⟩
  by_cases o19 : op = 19
  · subst o19
    have r := row19 hW1 hW h1 h2 h3 h4
    refine ⟨_, 0, ?_, r, ?_⟩
    · simp only [ktab_s, Int.reduceBEq, cond_true, cond_false]
      rw [and_w hW h1.lo h3.lz, and_w hW h1.lz h3.lo, kof1]
      by_cases c : O &&& Y = 0
      · rw [show (((O &&& Y : Nat) : Int) != (0 : Int)) = false from bne_eq_false_iff_eq.2 (by omega), cond_false]
        by_cases d : Z &&& P = 0
        · rw [show (((Z &&& P : Nat) : Int) != (0 : Int)) = false from bne_eq_false_iff_eq.2 (by omega), cond_false, if_pos ⟨c, d⟩]; rfl
        · rw [show (((Z &&& P : Nat) : Int) != (0 : Int)) = true from bne_iff_ne.2 (by omega), cond_true, if_neg (fun h => d h.2)]; rfl
      · rw [show (((O &&& Y : Nat) : Int) != (0 : Int)) = true from bne_iff_ne.2 (by omega), cond_true, if_neg (fun h => c h.1)]; rfl
    · refine ⟨?_, Nat.two_pow_pos W, fun j _ => Nat.zero_testBit j⟩
      have : 2 ^ 1 ≤ 2 ^ W := Nat.pow_le_pow_right (by decide) hW1
      split <;> omega
  refine zero_row _ ?_ _ ?_
  · simp only [qrow_s, beq_eq_false_iff_ne.2 o5, beq_eq_false_iff_ne.2 o8, beq_eq_false_iff_ne.2 o9, beq_eq_false_iff_ne.2 o10, beq_eq_false_iff_ne.2 o13, beq_eq_false_iff_ne.2 o14, beq_eq_false_iff_ne.2 o15, beq_eq_false_iff_ne.2 o16, beq_eq_false_iff_ne.2 o17, beq_eq_false_iff_ne.2 o18, beq_eq_false_iff_ne.2 o19, cond_false]
  · simp only [ktab_s, beq_eq_false_iff_ne.2 o5, beq_eq_false_iff_ne.2 o8, beq_eq_false_iff_ne.2 o9, beq_eq_false_iff_ne.2 o10, beq_eq_false_iff_ne.2 o13, beq_eq_false_iff_ne.2 o14, beq_eq_false_iff_ne.2 o15, beq_eq_false_iff_ne.2 o16, beq_eq_false_iff_ne.2 o17, beq_eq_false_iff_ne.2 o18, beq_eq_false_iff_ne.2 o19, cond_false]
end
theorem bif_same {α : Type} {b : Bool} {x x' y y' : α} (h1 : x = x') (h2 : y = y') : (bif b then x else y) = (bif b then x' else y') := by rw [h1, h2]
theorem row_bits {W : Nat} (hW : W ≤ 64) {r : Nat → Int} {k : Int × Int} (h : ∃ A B : Nat, k = ((A : Int), (B : Int)) ∧ RowIs r A B ∧ OkB W A B) : k = ((qbit_s r).1, (qbit_s r).2) := by
  obtain ⟨A, B, e1, e2, e3⟩ := h
  rw [qbit_is e2 e3.dj (e3.z64 hW) (e3.o64 hW), e1]
theorem row_bits' {W : Nat} (hW : W ≤ 64) {r : Nat → Int} {k : Int × Int} (h : ∃ A B : Nat, k = ((A : Int), (B : Int)) ∧ RowIs r A B ∧ OkB W A B) : (k.1, k.2) = ((qbit_s r).1, (qbit_s r).2) := by
  obtain ⟨A, B, e1, e2, e3⟩ := h
  rw [qbit_is e2 e3.dj (e3.z64 hW) (e3.o64 hW), e1]
theorem maxw (w : Int) : max 1 (min w 64) = (cw w : Int) := by unfold cw; omega
theorem val_row {n : Nat} (h1 : 1 ≤ n) (h2 : n ≤ 64) (op w : Int) {x y : Int} (hx : 0 ≤ x ∧ x < 18446744073709551616) (hy : 0 ≤ y ∧ y < 18446744073709551616) :
    ((kof_s (n : Int) (apply1_s op w x y)).1, (kof_s (n : Int) (apply1_s op w x y)).2) = ((qbit_s (qwrd_s (n : Int) (rapp_s op w x y))).1, (qbit_s (qwrd_s (n : Int) (rapp_s op w x y))).2) := by
  obtain ⟨x0, rfl⟩ : ∃ k : Nat, x = k := ⟨x.toNat, by omega⟩
  obtain ⟨y0, rfl⟩ : ∃ k : Nat, y = k := ⟨y.toNat, by omega⟩
  have hc := cw_range w
  rw [word_same op w hx hy, rapp_eq op w x0 y0 (by omega) (by omega)]
  have hv := Nat.lt_of_lt_of_le (apply_lt op hc.1 (Nat.mod_lt x0 (Nat.two_pow_pos (cw w))) (Nat.mod_lt y0 (Nat.two_pow_pos (cw w)))) (pow_le64 hc.2)
  generalize applyN op (cw w) (x0 % 2 ^ cw w) (y0 % 2 ^ cw w) = v at *
  exact row_bits h2 (word_row h1 h2 hv rfl rfl)
theorem qapp_same (op w : Int) {a b c e : Int} (ha : 0 ≤ a ∧ a < 18446744073709551616) (hb : 0 ≤ b ∧ b < 18446744073709551616) (hc : 0 ≤ c ∧ c < 18446744073709551616) (he : 0 ≤ e ∧ e < 18446744073709551616) : kapp_s op w a b c e = qapp_s op w a b c e := by
  obtain ⟨hW1, hW⟩ := cw_range w
  have hcw : cw (cw w : Int) = cw w := cw_cw w
  obtain ⟨Z, O, k1, o1, r1⟩ := right_both (cw w : Int) ha hb
  obtain ⟨Y, P, k2, o2, r2⟩ := right_both (cw w : Int) hc he
  have n1 := knum_both _ k1 o1
  have n2 := knum_both _ k2 o2
  have q1 := qnum_row (w := (cw w : Int)) o1 r1
  have q2 := qnum_row (w := (cw w : Int)) o2 r2
  rw [hcw] at o1 o2 r1 r2 n1 n2 q1 q2
  have tab := row_bits' hW (tab_row op hW1 hW o1 r1 o2 r2)
  have p1 := knum_rng (cw w : Int) a b
  have p2 := knum_rng (cw w : Int) c e
  unfold kapp_s qapp_s
  rw [maxw, rwid_eq, q1.trans n1.symm, q2.trans n2.symm, k1, k2]
  generalize knum_s (cw w : Int) a b = p at *
  generalize knum_s (cw w : Int) c e = q at *
  have v1 := val_row (n := 1) (Nat.le_refl 1) (by decide) op (cw w : Int) p1 p2
  rw [show ((1 : Nat) : Int) = 1 from rfl] at v1
  have v : _ = _ := bif_same (b := decide (op ≥ (19 : Int))) v1 (val_row hW1 hW op (cw w : Int) p1 p2)
  exact bif_same rfl (bif_same rfl (bif_same rfl (bif_same rfl (bif_same (bif_same v (bif_same v tab)) tab))))
theorem lKno_true (op w : Int) {a b c e n : Int} (ha : 0 ≤ a ∧ a < 18446744073709551616) (hb : 0 ≤ b ∧ b < 18446744073709551616) (hc : 0 ≤ c ∧ c < 18446744073709551616) (he : 0 ≤ e ∧ e < 18446744073709551616) (hn : 0 ≤ n ∧ n < 18446744073709551616) : lKno_s op w a b c e n = true := by
  unfold lKno_s
  rw [← qapp_same op w ha hb hc he, qrig_same w ha hb, qhas_same w ha hb hn, qwo_same w hn, qmee_same w ha hb hc he, qnu_same w ha hb, qjoi_same w ha hb hc he]
  simp only [beq_self_eq_true, Bool.and_self, Bool.not_true, cond_true, cond_false]
end Go.Proofs.YtjlfgbaphnpbfaaDoor.Sx.M5
