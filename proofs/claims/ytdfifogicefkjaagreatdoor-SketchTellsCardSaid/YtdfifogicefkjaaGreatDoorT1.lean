/- A list is a term by the program just if it is one by the document, with the same fault at the same place. -/
import Derived.Test.YtdfifogicefkjaaGreatDoorN2
open Go Go.Proofs Go.RowKit
namespace Go.Proofs.YtdfifogicefkjaaGreatDoor.Sx.M5
set_option linter.unusedVariables false
set_option linter.unusedSimpArgs false
theorem kids_same (op : Int) : rkds_s op = kids_s op := by
  unfold rkds_s kids_s
  simp only [Bool.cond_eq_ite, decide_eq_true_eq, beq_iff_eq]
  repeat' split
  all_goals first | rfl | omega
/-- What the document says behind the kids. -/
def tailR (x : Nd) (f : Nat → Int) : Int := bif (rwd_s x (f 0) (f 1) (f 2)) != x.w then (8 : Int) else (bif decide (x.w < (0 : Int)) then (8 : Int) else (bif decide (x.n > (rmos_s x)) then (3 : Int) else (0 : Int)))
theorem rrig_l0_eq {x : Nd} {l : List Nd} (hw : ∀ j, j < l.length → 0 ≤ (l.getD j default).w) : ∀ (m : Nat) (f : Nat → Int) (i : Int), 0 ≤ i → (3 - i).toNat < m → (∀ j, 0 ≤ f j) → ∃ f', (∀ j, 0 ≤ f' j) ∧ (tkid_l0 x l m f i).1 = f' ∧ rrig_l0 x l m f i = bif !(tkid_l0 x l m f i).2 then 9 else tailR x f' := by
  intro m
  induction m with
  | zero => intro f i _ h; omega
  | succ m ih =>
    intro f i h0 hm hf
    rw [rrig_l0, tkid_l0, kids_same]
    cases c : decide (i < (3 : Int)) with
    | false => exact ⟨f, hf, rfl, rfl⟩
    | true =>
      have c := of_decide_eq_true c
      cases c1 : decide (i ≥ kids_s x.op) with
      | true =>
        cases c2 : (x.k i.toNat != (0 : Int)) with
        | true => exact ⟨f, hf, rfl, rfl⟩
        | false => exact ih f (i + 1) (by omega) (by omega) hf
      | false =>
        cases c2 : decide (x.k i.toNat < (0 : Int)) with
        | true => exact ⟨f, hf, rfl, rfl⟩
        | false =>
          cases c3 : decide (x.k i.toNat ≥ (l.length : Int)) with
          | true => exact ⟨f, hf, rfl, rfl⟩
          | false =>
            have c2 := of_decide_eq_false c2
            have c3 := of_decide_eq_false c3
            refine ih _ (i + 1) (by omega) (by omega) fun j => ?_
            unfold upd
            split
            · exact hw _ (by omega)
            · exact hf j
theorem wide_iff (x : Nd) (f : Nat → Int) (ho : 0 ≤ x.op ∧ x.op ≤ 24) (hf : ∀ j, 0 ≤ f j) : twid_s x f = (!(rwd_s x (f 0) (f 1) (f 2) != x.w) && !decide (x.w < 0)) := by
  obtain ⟨op, w, n, k⟩ := x
  have h0 := hf 0
  have h1 := hf 1
  have h2 := hf 2
  rw [Bool.eq_iff_iff]
  unfold twid_s rwd_s leaf_s
  rw [show kids_s op = kids_s op from rfl]
  generalize f 0 = a at *
  generalize f 1 = b at *
  generalize f 2 = c at *
  have ho : 0 ≤ op ∧ op ≤ 24 := ho
  have : op = 0 ∨ op = 1 ∨ op = 2 ∨ op = 3 ∨ op = 4 ∨ op = 5 ∨ op = 6 ∨ op = 7 ∨ op = 19 ∨ op = 20 ∨ op = 21 ∨ op = 22 ∨ op = 23 ∨ op = 24 ∨ (8 ≤ op ∧ op ≤ 18) := by omega
  have fin : ∀ (p q : Bool), ((p && q) = true) ↔ (p = true ∧ q = true) := fun p q => by cases p <;> cases q <;> simp
  rcases this with e | e | e | e | e | e | e | e | e | e | e | e | e | e | e
  case inr.inr.inr.inr.inr.inr.inr.inr.inr.inr.inr.inr.inr.inr =>
    have hk : kids_s op = 2 := by
      unfold kids_s
      rw [decide_eq_false (by omega : ¬ op < 5), decide_eq_false (by omega : ¬ op > 24), decide_eq_false (by omega : ¬ op ≤ 7), decide_eq_true (by omega : op ≤ 21)]; rfl
    simp only [hk]
    have ne : ∀ v : Int, (v < 8 ∨ 18 < v) → (op == v) = false := fun v hv => by simp; omega
    rw [ne 5 (by omega), ne 6 (by omega), ne 7 (by omega), ne 19 (by omega), ne 20 (by omega), ne 21 (by omega), ne 22 (by omega), ne 23 (by omega), ne 24 (by omega), ne 0 (by omega), ne 1 (by omega), ne 2 (by omega), ne 3 (by omega), ne 4 (by omega)]
    by_cases ca : a = 0 <;> by_cases cb : a = b <;> simp [Bool.cond_eq_ite, ca, cb] <;> omega
  all_goals (subst e; simp only [Bool.cond_eq_ite, Int.reduceBEq, kids_s, Int.reduceLT, Int.reduceGT, decide_true, decide_false, Bool.false_eq_true, if_false, if_true, beq_self_eq_true]; simp only [bne_iff_ne, ne_eq, beq_iff_eq, fin, Bool.not_eq_true', bne_eq_false_iff_eq, decide_eq_false_iff_not]; repeat' split)
  all_goals first | omega | (simp; omega) | simp
theorem num_iff (x : Nd) (f : Nat → Int) (hn : 0 ≤ x.n ∧ x.n < 18446744073709551616) (h : twid_s x f = true) : tnum_s x = !decide (x.n > rmos_s x) := by
  obtain ⟨op, w, n, k⟩ := x
  unfold tnum_s rmos_s
  cases c0 : (op == (0 : Int)) with
  | true =>
    obtain rfl := eq_of_beq c0
    have h : leaf_s ⟨0, w, n, k⟩ = true := h
    have hn : 0 ≤ n ∧ n < 18446744073709551616 := hn
    have hw : w = 1 ∨ w = 8 ∨ w = 64 := by
      unfold leaf_s at h
      simp [Bool.cond_eq_ite] at h
      omega
    rcases hw with e | e | e <;> subst e
    · rw [Bool.eq_iff_iff]
      show ((n.fdiv (2 ^ 1)) == (0 : Int)) = true ↔ (!decide (n > 1)) = true
      rw [Int.fdiv_eq_ediv_of_nonneg _ (by decide)]
      simp
      omega
    · rw [Bool.eq_iff_iff]
      show ((n.fdiv (2 ^ 8)) == (0 : Int)) = true ↔ (!decide (n > 255)) = true
      rw [Int.fdiv_eq_ediv_of_nonneg _ (by decide)]
      simp
      omega
    · show true = (!decide (n > 18446744073709551615))
      rw [decide_eq_false (by omega)]; rfl
  | false =>
    have hn : 0 ≤ n ∧ n < 18446744073709551616 := hn
    cases c1 : (op == (1 : Int)) with
    | true => show decide (n < 16) = !decide (n > 15); rw [Bool.eq_iff_iff]; simp; omega
    | false =>
      cases c2 : (op == (2 : Int)) with
      | true => show decide (n < 8) = !decide (n > 7); rw [Bool.eq_iff_iff]; simp; omega
      | false => show (n == 0) = !decide (n > 0); rw [Bool.eq_iff_iff]; simp; omega
theorem trig_same (x : Nd) (l : List Nd) (hw : ∀ j, j < l.length → 0 ≤ (l.getD j default).w) (hn : 0 ≤ x.n ∧ x.n < 18446744073709551616) : rrig_s x l = trig_s x l ∧ (trig_s x l = 0 → 0 ≤ x.w) := by
  unfold rrig_s trig_s
  cases c1 : decide (x.op < (0 : Int)) with
  | true => exact ⟨rfl, fun h => by cases h⟩
  | false =>
    cases c2 : decide (x.op > (24 : Int)) with
    | true => exact ⟨rfl, fun h => by cases h⟩
    | false =>
      have c1 := of_decide_eq_false c1
      have c2 := of_decide_eq_false c2
      obtain ⟨f, hf, e1, e2⟩ := rrig_l0_eq (x := x) hw ((3 - ((0) : Int)).toNat + 1) (fun _ => 0) 0 (by omega) (Nat.lt_succ_self _) (fun _ => Int.le_refl 0)
      simp only [cond_false]
      rw [e2]
      unfold tkid_s
      rw [e1]
      generalize (tkid_l0 x l ((3 - ((0) : Int)).toNat + 1) (fun _ => 0) 0).2 = b
      cases b with
      | false => exact ⟨rfl, fun h => by cases h⟩
      | true =>
        have w := wide_iff x f ⟨by omega, by omega⟩ hf
        have nn := num_iff x f hn
        unfold tailR
        generalize twid_s x f = t at *
        generalize (rwd_s x (f 0) (f 1) (f 2) != x.w) = p at *
        cases q : decide (x.w < 0) with
        | true =>
          rw [q] at w
          obtain rfl : t = false := by rw [w]; cases p <;> rfl
          cases p <;> exact ⟨rfl, fun h => by cases h⟩
        | false =>
          have q' := of_decide_eq_false q
          rw [q] at w
          cases p with
          | true => subst w; exact ⟨rfl, fun h => by cases h⟩
          | false =>
            subst w
            have nn := nn rfl
            generalize tnum_s x = u at *
            subst nn
            refine ⟨?_, fun _ => by omega⟩
            cases decide (x.n > rmos_s x) <;> rfl
theorem chk_l0_same {l : List Nd} (hn : ∀ j, U64 (l.getD j default).n) : ∀ (m : Nat) (i : Int), 0 ≤ i → i ≤ l.length → (∀ j : Nat, j < i → 0 ≤ (l.getD j default).w) → rchk_l0 l m i = tchk_l0 l m i := by
  intro m
  induction m with
  | zero => intro i _ _ _; rfl
  | succ m ih =>
    intro i h0 h1 hw
    rw [rchk_l0, tchk_l0]
    cases c : decide (i < (l.length : Int)) with
    | false => rfl
    | true =>
      have c := of_decide_eq_true c
      have hl : ((l.take i.toNat).drop 0).length = i.toNat := by rw [List.drop_zero, List.length_take]; omega
      obtain ⟨e, ew⟩ := trig_same (l.getD i.toNat default) ((l.take i.toNat).drop 0) (fun j hj => by
        rw [hl] at hj
        have := hw j (by omega)
        rw [List.drop_zero, List.getD_eq_getElem?_getD, List.getElem?_take_of_lt hj, ← List.getD_eq_getElem?_getD]; exact this) (hn _)
      rw [e]
      cases c1 : (i == (65536 : Int)) with
      | true => rfl
      | false =>
        cases c2 : (trig_s (l.getD i.toNat default) ((l.take i.toNat).drop 0) != (0 : Int)) with
        | true => rfl
        | false =>
          refine ih (i + 1) (by omega) (by omega) fun j hj => ?_
          by_cases ej : (j : Int) = i
          · obtain rfl : j = i.toNat := by omega
            exact ew (by simpa using c2)
          · exact hw j (by omega)
theorem chk_same {l : List Nd} (hn : ∀ j, U64 (l.getD j default).n) : rchk_s l = tchk_s l := by
  unfold rchk_s tchk_s
  rw [chk_l0_same hn _ 0 (by omega) (by omega) (fun j hj => by omega)]
theorem nds_of_rchk {l : List Nd} (hn : ∀ j, U64 (l.getD j default).n) (h : (rchk_s l).1 = 0) : NdsOk l ∧ 1 ≤ l.length := nds_of_chk (chk_same hn ▸ h)
end Go.Proofs.YtdfifogicefkjaaGreatDoor.Sx.M5
