/- ImageCuts: the plain law. -/
import Derived.Test.YthfgakbigpnkhaaF1
open Go Go.Proofs Go.RowKit
namespace Go.Proofs.Ythfgakbigpnkhaa.Sx.C3
set_option linter.unusedVariables false
set_option linter.unusedSimpArgs false
theorem two_bif {α : Type} {P : α → α → Prop} {b : Bool} {x x' y y' : α} (h1 : P x x') (h2 : P y y') : P (bif b then x else y) (bif b then x' else y') := by
  cases b with
  | true => exact h1
  | false => exact h2
theorem getD_take {L : List Int} {c i : Nat} (h : i < c) : (L.take c).getD i 0 = L.getD i 0 := by
  rw [List.getD_eq_getElem?_getD, List.getElem?_take, if_pos h, ← List.getD_eq_getElem?_getD]
theorem take_take_le {L : List Int} {c n : Nat} (h : n ≤ c) : (L.take c).take n = L.take n := by
  rw [List.take_take, Nat.min_eq_left h]
/-- Of a beginning: it ends too soon, or all is as it was. -/
def FShort (n : Nat) : FrontT := (true, 1, (n : Int), 0, 0, 0, [], 0)
theorem ifront_pre (L : List Int) (c : Nat) (hc : c ≤ L.length) (hb : Bytes L) : ifront_s (L.take c) = FShort c ∨ ifront_s (L.take c) = ifront_s L := by
  have hl : (L.take c).length = c := by rw [List.length_take]; omega
  have hg := getD_b hb 8
  unfold ifront_s
  rw [hl]
  by_cases h4 : c < 4
  · rw [decide_eq_true (show (c : Int) < 4 by omega)]; exact .inl rfl
  rw [decide_eq_false (show ¬ (c : Int) < 4 by omega), decide_eq_false (show ¬ (L.length : Int) < 4 by omega), take_take_le (n := 4) (by omega)]
  simp only [cond_false]
  refine two_bif (P := fun x y : FrontT => x = FShort c ∨ x = y) (.inr rfl) ?_
  by_cases h5 : c < 5
  · rw [decide_eq_true (show (c : Int) < 5 by omega)]; exact .inl rfl
  rw [decide_eq_false (show ¬ (c : Int) < 5 by omega), decide_eq_false (show ¬ (L.length : Int) < 5 by omega), take_take_le (n := 5) (by omega)]
  simp only [cond_false]
  refine two_bif (P := fun x y : FrontT => x = FShort c ∨ x = y) (.inr rfl) ?_
  by_cases h6 : c < 6
  · rw [decide_eq_true (show (c : Int) < 6 by omega)]; exact .inl rfl
  rw [decide_eq_false (show ¬ (c : Int) < 6 by omega), decide_eq_false (show ¬ (L.length : Int) < 6 by omega), getD_take (i := 5) (by omega)]
  simp only [cond_false]
  refine two_bif (P := fun x y : FrontT => x = FShort c ∨ x = y) (.inr rfl) ?_
  by_cases h7 : c < 7
  · rw [decide_eq_true (show (c : Int) < 7 by omega)]; exact .inl rfl
  rw [decide_eq_false (show ¬ (c : Int) < 7 by omega), decide_eq_false (show ¬ (L.length : Int) < 7 by omega), getD_take (i := 6) (by omega)]
  simp only [cond_false]
  refine two_bif (P := fun x y : FrontT => x = FShort c ∨ x = y) (.inr rfl) ?_
  by_cases h8 : c < 8
  · rw [decide_eq_true (show (c : Int) < 8 by omega)]; exact .inl rfl
  rw [decide_eq_false (show ¬ (c : Int) < 8 by omega), decide_eq_false (show ¬ (L.length : Int) < 8 by omega), getD_take (i := 7) (by omega)]
  simp only [cond_false]
  refine two_bif (P := fun x y : FrontT => x = FShort c ∨ x = y) (.inr rfl) ?_
  by_cases h9 : c < 9
  · rw [decide_eq_true (show (c : Int) < 9 by omega)]; exact .inl rfl
  rw [decide_eq_false (show ¬ (c : Int) < 9 by omega), decide_eq_false (show ¬ (L.length : Int) < 9 by omega), getD_take (i := 8) (by omega)]
  simp only [cond_false]
  refine two_bif (P := fun x y : FrontT => x = FShort c ∨ x = y) (.inr rfl) ?_
  by_cases hn : (c : Int) < 9 + L.getD 8 0
  · rw [decide_eq_true hn]; exact .inl rfl
  rw [decide_eq_false hn, decide_eq_false (show ¬ (L.length : Int) < 9 + L.getD 8 0 by omega), take_take_le (n := (9 + L.getD 8 0).toNat) (by omega)]
  exact .inr rfl
def RShort (n : Nat) : RestT := (true, 1, (n : Int), 0, 0, [], [])
theorem drop_take_take {L : List Int} {c p : Nat} (h : p + 12 ≤ c) : ((L.take c).drop p).take 12 = (L.drop p).take 12 := by
  rw [List.drop_take, List.take_take, Nat.min_eq_left (by omega)]
theorem insOf_take {l l' : List Int} (h : l.take 12 = l'.take 12) : insOf l = insOf l' := by
  have g : ∀ i, i < 12 → l.getD i 0 = l'.getD i 0 := by
    intro i hi
    rw [← getD_take (L := l) hi, ← getD_take (L := l') hi, h]
  unfold insOf tail8
  rw [g 0 (by decide), g 1 (by decide), g 2 (by decide), g 3 (by decide), h]
theorem getS_pre {L : List Int} {c p : Nat} (hc : c ≤ L.length) (h : p + 12 ≤ c) : getS ((L.take c).drop p) = getS (L.drop p) := by
  unfold getS
  rw [decide_eq_false (by rw [List.length_drop, List.length_take]; omega), decide_eq_false (by rw [List.length_drop]; omega), insOf_take (drop_take_take h)]
  rfl
theorem rest_l1_pre {L : List Int} (hb : Bytes L) (h0 : L.length < 2 ^ 40) {c : Nat} (hc : c ≤ L.length) {at_ mem stack input : Int} {da : List Int} : ∀ (m : Nat) (i n first pos : Int) (fs : List Int) (is : List Ins), 0 ≤ pos → pos ≤ c →
    rest_l1 (L.take c) at_ mem stack input da m i n first pos fs is = RShort c ∨ rest_l1 (L.take c) at_ mem stack input da m i n first pos fs is = rest_l1 L at_ mem stack input da m i n first pos fs is := by
  have hl : (L.take c).length = c := by rw [List.length_take]; omega
  intro m
  induction m with
  | zero => intros; exact .inr rfl
  | succ m ih =>
    intro i n first pos fs is p0 p1
    rw [rest_l1, rest_l1, get_eq (bytes_drop (bytes_take hb c) _), get_eq (bytes_drop hb _)]
    refine two_bif (P := fun x y : RestT => x = RShort c ∨ x = y) ?_ (.inr rfl)
    by_cases h : pos.toNat + 12 ≤ c
    · rw [getS_pre hc h]
      refine bifP (P := fun x : RestT => x = RShort c ∨ x = _) (fun e => ?_) (fun e => ?_)
      · rw [e]; exact .inr rfl
      · rw [e]; exact ih _ _ _ _ _ _ (by omega) (by omega)
    · have hd : ((L.take c).drop pos.toNat).length = c - pos.toNat := by rw [List.length_drop, hl]
      have e : getS ((L.take c).drop pos.toNat) = (zeroIns, 1, (((L.take c).drop pos.toNat).length : Int)) := by
        unfold getS; rw [decide_eq_true (by omega)]; rfl
      rw [e]
      left
      show (true, (1 : Int), IntKind.i64.wrap (pos + (((L.take c).drop pos.toNat).length : Int)), (0 : Int), (0 : Int), ([] : List Int), ([] : List Ins)) = RShort c
      rw [hd, wrap_i64 (by omega) (by omega), show pos + ((c - pos.toNat : Nat) : Int) = c by omega]; rfl
theorem rest_l0_pre {L : List Int} (hb : Bytes L) (h0 : L.length < 2 ^ 40) {c : Nat} (hc : c ≤ L.length) {at_ mem stack input : Int} {da : List Int} (a0 : 0 ≤ at_) (a1 : at_ < c) : ∀ (m : Nat) (i last pos : Int) (fs : List Int), 0 ≤ pos → pos ≤ c →
    rest_l0 (L.take c) at_ mem stack input da m i last pos fs = RShort c ∨ rest_l0 (L.take c) at_ mem stack input da m i last pos fs = rest_l0 L at_ mem stack input da m i last pos fs := by
  have hl : (L.take c).length = c := by rw [List.length_take]; omega
  intro m
  induction m with
  | zero => intros; exact .inr rfl
  | succ m ih =>
    intro i last pos fs p0 p1
    rw [rest_l0, rest_l0, hl, getD_take (i := at_.toNat) (by omega)]
    by_cases h : (c : Int) < pos + 2
    · rw [decide_eq_true h]
      left
      cases decide (i < L.getD at_.toNat 0) with
      | true =>
        cases decide (last < 0) with
        | true => rfl
        | false => rfl
      | false => rfl
    · rw [decide_eq_false h, decide_eq_false (show ¬ (L.length : Int) < pos + 2 by omega), getD_take (i := pos.toNat) (by omega), getD_take (i := (pos + 1).toNat) (by omega)]
      simp only [cond_false]
      refine two_bif (P := fun x y : RestT => x = RShort c ∨ x = y) ?_ ?_
      · refine two_bif (P := fun x y : RestT => x = RShort c ∨ x = y) ?_ ?_
        · exact two_bif (P := fun x y : RestT => x = RShort c ∨ x = y) (.inr rfl) (ih _ _ _ _ (by omega) (by omega))
        · exact two_bif (P := fun x y : RestT => x = RShort c ∨ x = y) (.inr rfl) (ih _ _ _ _ (by omega) (by omega))
      · exact two_bif (P := fun x y : RestT => x = RShort c ∨ x = y) (.inr rfl) (rest_l1_pre hb h0 hc _ _ _ _ _ _ _ (by omega) (by omega))
theorem rest_pre {L : List Int} (hb : Bytes L) (h0 : L.length < 2 ^ 40) {c : Nat} (hc : c ≤ L.length) {at_ mem stack input : Int} {da : List Int} (a0 : 0 ≤ at_) (a1 : at_ ≤ c) :
    rest_s (L.take c) at_ mem stack input da = RShort c ∨ rest_s (L.take c) at_ mem stack input da = rest_s L at_ mem stack input da := by
  have hl : (L.take c).length = c := by rw [List.length_take]; omega
  unfold rest_s
  rw [hl]
  by_cases h : (c : Int) < at_ + 1
  · rw [decide_eq_true h]; exact .inl rfl
  · rw [decide_eq_false h, decide_eq_false (show ¬ (L.length : Int) < at_ + 1 by omega), getD_take (i := at_.toNat) (by omega)]
    simp only [cond_false]
    exact two_bif (P := fun x y : RestT => x = RShort c ∨ x = y) (.inr rfl) (rest_l0_pre hb h0 hc a0 (by omega) _ _ _ _ _ (by omega) (by omega))
/-- What is so of bytes that tell an image. -/
theorem idec_ok0 {b : List Int} (hb : Bytes b) (h0 : b.length < 2 ^ 40) (h : (idec_s b).2.1 = 0) : (ifront_s b).1 = false ∧ (restB b).1 = false ∧ (restB b).2.2.2.2.1 = b.length ∧ ¬ stray_s (imgD b) ≥ 0 ∧ idec_s b = (imgD b, 0, 0) := by
  have ne : ∀ n : Int, n ≠ 0 → n = 0 → False := fun n h1 h2 => h1 h2
  cases h1 : (ifront_s b).1 with
  | true =>
    unfold idec_s at h
    rw [h1] at h
    exfalso
    have h : (ifront_s b).2.1 = 0 := h
    rcases ifront_err b h1 with e | e
    · rw [e.1] at h; cases h
    · rcases e.1 with e | e <;> rw [e] at h <;> cases h
  | false =>
  have R := restB_rng hb h0 h1
  cases h2 : (restB b).1 with
  | true =>
    unfold idec_s at h
    rw [h1, h2] at h
    exfalso
    have h : (restB b).2.1 = 0 := h
    rcases R.2 h2 with e | e
    · rw [e.1] at h; cases h
    · rcases e.1 with e | e | e <;> rw [e] at h <;> cases h
  | false =>
  obtain ⟨q1, q2, q3, _⟩ := R.1 h2
  unfold idec_s at h ⊢
  rw [h1, h2] at h ⊢
  by_cases h3 : (restB b).2.2.2.2.1 < (b.length : Int)
  · rw [decide_eq_true h3] at h; exact absurd (show (6 : Int) = 0 from h) (by decide)
  rw [decide_eq_false h3] at h ⊢
  by_cases h4 : stray_s (imgD b) ≥ 0
  · rw [decide_eq_true h4] at h; exact absurd (show (7 : Int) = 0 from h) (by decide)
  rw [decide_eq_false h4]
  exact ⟨rfl, rfl, by omega, h4, rfl⟩
/-- Of bytes that tell an image no beginning tells one. -/
theorem cut_short {b : List Int} (hb : Bytes b) (h0 : b.length < 2 ^ 40) (h : (idec_s b).2.1 = 0) {c : Nat} (hc : c < b.length) : (idec_s (b.take c)).2.1 = 1 ∧ (idec_s (b.take c)).2.2 = c := by
  obtain ⟨h1, h2, h3, h4, h5⟩ := idec_ok0 hb h0 h
  have hl : (b.take c).length = c := by rw [List.length_take]; omega
  have hbc := bytes_take hb c
  unfold idec_s
  rcases ifront_pre b c (by omega) hb with e | e
  · rw [e]; exact ⟨rfl, rfl⟩
  · have h1' : (ifront_s (b.take c)).1 = false := by rw [e]; exact h1
    have q := ifront_rng h1'
    rw [hl, e] at q
    rcases rest_pre hb h0 (show c ≤ b.length by omega) (mem := (ifront_s b).2.2.2.1) (stack := (ifront_s b).2.2.2.2.1) (input := (ifront_s b).2.2.2.2.2.1) (da := (ifront_s b).2.2.2.2.2.2.1) q.1 q.2.1 with r | r
    · have er : restB (b.take c) = RShort c := by unfold restB; rw [e]; exact r
      rw [h1', er]; exact ⟨rfl, rfl⟩
    · exfalso
      have er : restB (b.take c) = restB b := by unfold restB; rw [e]; exact r
      have R := (restB_rng hbc (by omega) h1').1 (by rw [er]; exact h2)
      rw [er, hl] at R
      omega
/-- With a byte more that is left. -/
theorem cut_more {b : List Int} (hb : Bytes b) (h0 : b.length < 2 ^ 39) (h : (idec_s b).2.1 = 0) {x : Int} (hx : 0 ≤ x ∧ x ≤ 255) : (idec_s (b ++ [x])).2.1 = 6 ∧ (idec_s (b ++ [x])).2.2 = b.length := by
  obtain ⟨h1, h2, h3, h4, h5⟩ := idec_ok0 hb (by omega) h
  have hL : (b ++ [x]).length = b.length + 1 := by simp
  have ht : (b ++ [x]).take b.length = b := by simp
  have hbL := bytes_app hb x hx
  have e : ifront_s b = ifront_s (b ++ [x]) := by
    have := ifront_pre (b ++ [x]) b.length (by omega) hbL
    rw [ht] at this
    rcases this with e | e
    · rw [e] at h1; cases h1
    · exact e
  have q := ifront_rng h1
  have er : restB b = restB (b ++ [x]) := by
    have := rest_pre hbL (by omega) (show b.length ≤ (b ++ [x]).length by omega) (mem := (ifront_s b).2.2.2.1) (stack := (ifront_s b).2.2.2.2.1) (input := (ifront_s b).2.2.2.2.2.1) (da := (ifront_s b).2.2.2.2.2.2.1) q.1 q.2.1
    rw [ht] at this
    rcases this with r | r
    · have : restB b = RShort b.length := r
      rw [this] at h2; cases h2
    · unfold restB; rw [← e]; exact r
  unfold idec_s
  rw [← e, ← er, h1, h2, hL, decide_eq_true (by omega)]
  exact ⟨rfl, h3⟩
theorem lCut_t (b : List Int) (cut more : Int) (hb : Bytes b) (hm : 0 ≤ more ∧ more ≤ 255) : lCut_s b cut more = true := by
  unfold lCut_s
  refine bifP (P := fun r : Bool => r = true) (fun _ => rfl) (fun h1 => ?_)
  have h1 := of_decide_eq_false h1
  refine bifP (P := fun r : Bool => r = true) (fun _ => rfl) (fun h2 => ?_)
  have h2 := of_decide_eq_false h2
  refine bifP (P := fun r : Bool => r = true) (fun _ => rfl) (fun h3 => ?_)
  have h3 := of_decide_eq_false h3
  refine bifP (P := fun r : Bool => r = true) (fun _ => rfl) (fun h4 => ?_)
  have h4 := bne_eq_false_iff_eq.1 h4
  obtain ⟨c1, c2⟩ := cut_short hb (by omega) h4 (c := cut.toNat) (by omega)
  obtain ⟨c3, c4⟩ := cut_more hb (by omega) h4 hm
  rw [List.drop_zero, List.nil_append, c1, c2, c3, c4, show ((cut.toNat : Nat) : Int) = cut by omega]
  simp
theorem lCut_true (b : List Int) (cut more : Int) (hb : Bytes b) (hm : 0 ≤ more ∧ more ≤ 255) : Ok Try.prog 4 [.ro 1 b.length (b.map eb), .v (.int .i64 cut), .v (.int .u8 more)] (look []) (.v (.bool true)) (postOf [] []) := by
  have := lCut_ok b cut more hb hm
  rwa [lCut_t b cut more hb hm] at this
end Go.Proofs.Ythfgakbigpnkhaa.Sx.C3
