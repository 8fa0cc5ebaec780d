/- What is decoded is encoded as it was. -/
import Derived.Test.YthfgakbigpnkhaaG2
open Go Go.Proofs Go.RowKit
namespace Go.Proofs.Ythfgakbigpnkhaa.Sx.C3
set_option linter.unusedVariables false
set_option linter.unusedSimpArgs false
theorem take_one {b : List Int} {k : Nat} (h : k < b.length) : b.take (k + 1) = b.take k ++ [b.getD k 0] := by
  rw [List.take_add_one, List.getElem?_eq_getElem h, List.getD_eq_getElem?_getD, List.getElem?_eq_getElem h]; rfl
theorem split12 {l : List Int} (h : 12 ≤ l.length) : l.take 12 = [l.getD 0 0, l.getD 1 0, l.getD 2 0, l.getD 3 0] ++ tail8 l := by
  match l, h with
  | a :: b :: c :: d :: r, _ => simp [tail8]
theorem putB_ins {l : List Int} (hb : Bytes l) (hl : 12 ≤ l.length) (h : InsR (insOf l)) : putB (insOf l) = l.take 12 := by
  unfold putB
  rw [(put_parts h).1, split12 hl]
  show [l.getD 0 0, l.getD 1 0, l.getD 2 0, l.getD 3 0] ++ be (val (tail8 l)) = _
  rw [(be_val (tail8 l) (tail8_len hl) (tail8_byt hb)).1]
theorem twoB_eq {x y : Int} (hx : 0 ≤ x ∧ x ≤ 255) (hy : 0 ≤ y ∧ y ≤ 255) : twoB (256 * x + y) = [x, y] := by
  unfold twoB
  rw [Int.fdiv_eq_ediv_of_nonneg _ (by decide)]
  rw [show (256 * x + y) / 256 % 256 = x by omega, show (256 * x + y) % 256 = y by omega]
theorem take_two {b : List Int} (hb : Bytes b) {k : Nat} (h : k + 1 < b.length) : b.take (k + 2) = b.take k ++ twoB (256 * b.getD k 0 + b.getD (k + 1) 0) := by
  rw [twoB_eq (getD_b hb k) (getD_b hb (k + 1)), show k + 2 = k + 1 + 1 from rfl, take_one h, take_one (by omega)]
  simp
abbrev InsG (i : Ins) : Prop := InsR i ∧ 0 ≤ i.imm ∧ i.imm < 18446744073709551616
/-- The bytes that were read. -/
def RB (b Q : List Int) (cnt : Int) (r : RestT) : Prop := r.1 = false → b.take r.2.2.2.2.1.toNat = Q ++ (r.2.2.2.2.2.1.map twoB).flatten ++ twoB (r.2.2.2.2.2.2.length : Int) ++ (r.2.2.2.2.2.2.map putB).flatten ∧ (r.2.2.2.2.2.1.length : Int) = cnt ∧ ∀ j, j < r.2.2.2.2.2.2.length → InsG (r.2.2.2.2.2.2.getD j default)
theorem RB.pan {b Q : List Int} {cnt : Int} {r : RestT} (h : r.1 = true) : RB b Q cnt r := fun h2 => by rw [h] at h2; cases h2
theorem rest_l1_bytes {b Q : List Int} (hb : Bytes b) {at_ mem stack input : Int} {da : List Int} : ∀ (m : Nat) (i n first pos : Int) (fs : List Int) (is : List Ins), (is.length : Int) = i → i ≤ n → n ≤ 256 → 0 ≤ pos → pos ≤ b.length → b.take pos.toNat = Q ++ (fs.map twoB).flatten ++ twoB n ++ (is.map putB).flatten → (∀ j, j < is.length → InsG (is.getD j default)) → (256 - i).toNat < m → RB b Q fs.length (rest_l1 b at_ mem stack input da m i n first pos fs is) := by
  intro m
  induction m with
  | zero => intros; rename_i hm; exact absurd hm (Nat.not_lt_zero _)
  | succ m ih =>
    intro i n first pos fs is h1 h2 h3 p0 p1 ht hI hm
    rw [rest_l1, get_eq (bytes_drop hb _)]
    by_cases hi : i < n
    · rw [decide_eq_true hi]
      simp only [cond_true]
      by_cases he : (getS (b.drop pos.toNat)).2.1 = 0
      · obtain ⟨q1, q2, q3⟩ := getS_ok he
        rw [show ((getS (b.drop pos.toNat)).2.1 != 0) = false by simpa using he, q2]
        simp only [cond_false]
        have ql : (b.drop pos.toNat).length = b.length - pos.toNat := List.length_drop
        refine ih _ _ _ _ _ _ (by rw [List.length_append]; simp; omega) (by omega) h3 (by omega) (by omega) ?_ (fun j hj => ?_) (by omega)
        · rw [show (pos + 12).toNat = pos.toNat + 12 by omega, List.take_add, ht, ← putB_ins (bytes_drop hb _) q1 q3]
          simp
        · rw [List.length_append] at hj
          simp at hj
          by_cases c : j < is.length
          · rw [List.getD_eq_getElem?_getD, List.getElem?_append_left c, ← List.getD_eq_getElem?_getD]; exact hI j c
          · have e : j = is.length := by omega
            rw [List.getD_eq_getElem?_getD, List.getElem?_append_right (by omega), e, Nat.sub_self]
            exact ⟨q3, insOf_imm (bytes_drop hb _) q1⟩
      · rw [show ((getS (b.drop pos.toNat)).2.1 != 0) = true by simpa using he]
        exact RB.pan rfl
    · rw [decide_eq_false hi]
      intro _
      have e : n = (is.length : Int) := by omega
      rw [e] at ht
      exact ⟨ht, rfl, hI⟩
theorem rest_l0_bytes {b Q : List Int} (hb : Bytes b) {at_ mem stack input : Int} {da : List Int} (hn : b.getD at_.toNat 0 ≤ 16) : ∀ (m : Nat) (i last pos : Int) (fs : List Int), (fs.length : Int) = i → i ≤ b.getD at_.toNat 0 → 0 ≤ pos → pos ≤ b.length → -1 ≤ last → b.take pos.toNat = Q ++ (fs.map twoB).flatten → (16 - i).toNat < m → RB b Q (b.getD at_.toNat 0) (rest_l0 b at_ mem stack input da m i last pos fs) := by
  intro m
  induction m with
  | zero => intros; rename_i hm; exact absurd hm (Nat.not_lt_zero _)
  | succ m ih =>
    intro i last pos fs h1 h2 h3 h4 h5 ht hm
    rw [rest_l0]
    by_cases hl : (b.length : Int) < pos + 2
    · rw [decide_eq_true hl]
      simp only [cond_true]
      cases decide (i < b.getD at_.toNat 0) with
      | false => exact RB.pan rfl
      | true => cases decide (last < 0) <;> exact RB.pan rfl
    rw [decide_eq_false hl]
    simp only [cond_false]
    have x0 := getD_b hb pos.toNat
    have x1 := getD_b hb (pos + 1).toNat
    have ht2 : b.take (pos + 2).toNat = Q ++ (fs.map twoB).flatten ++ twoB (256 * b.getD pos.toNat 0 + b.getD (pos + 1).toNat 0) := by
      rw [← ht, show (pos + 2).toNat = pos.toNat + 2 by omega, show (pos + 1).toNat = pos.toNat + 1 by omega]
      exact take_two hb (by omega)
    refine bifP (P := fun r : RestT => RB b Q (b.getD at_.toNat 0) r) (fun hi => ?_) (fun hi => ?_)
    · have hi := of_decide_eq_true hi
      have next : RB b Q (b.getD at_.toNat 0) (rest_l0 b at_ mem stack input da m (i + 1) (256 * b.getD pos.toNat 0 + b.getD (pos + 1).toNat 0) (pos + 2) (fs ++ [256 * b.getD pos.toNat 0 + b.getD (pos + 1).toNat 0])) :=
        ih _ _ _ _ (by rw [List.length_append]; simp; omega) (by omega) (by omega) (by omega) (by omega) (by rw [ht2]; simp) (by omega)
      refine bifP (P := fun r : RestT => RB b Q (b.getD at_.toNat 0) r) (fun _ => ?_) (fun _ => ?_)
      · exact bifP (P := fun r : RestT => RB b Q (b.getD at_.toNat 0) r) (fun _ => RB.pan rfl) (fun _ => next)
      · exact bifP (P := fun r : RestT => RB b Q (b.getD at_.toNat 0) r) (fun _ => RB.pan rfl) (fun _ => next)
    · have hi := of_decide_eq_false hi
      refine bifP (P := fun r : RestT => RB b Q (b.getD at_.toNat 0) r) (fun _ => RB.pan rfl) (fun h => ?_)
      have hx := outr_f h
      have e : b.getD at_.toNat 0 = (fs.length : Int) := by omega
      rw [e]
      exact rest_l1_bytes hb _ _ _ _ _ _ _ rfl (by omega) (by omega) (by omega) (by omega) (by rw [ht2]; simp) (fun j hj => by simp at hj) (Nat.lt_succ_self _)
theorem rest_bytes {b : List Int} (hb : Bytes b) {at_ mem stack input : Int} {da : List Int} (a0 : 0 ≤ at_) (a1 : at_ ≤ b.length) : RB b (b.take (at_ + 1).toNat) (b.getD at_.toNat 0) (rest_s b at_ mem stack input da) := by
  unfold rest_s
  refine bifP (P := fun r : RestT => RB b (b.take (at_ + 1).toNat) (b.getD at_.toNat 0) r) (fun _ => RB.pan rfl) (fun h1 => ?_)
  have h1 := of_decide_eq_false h1
  refine bifP (P := fun r : RestT => RB b (b.take (at_ + 1).toNat) (b.getD at_.toNat 0) r) (fun _ => RB.pan rfl) (fun h => ?_)
  have hx := outr_f h
  exact rest_l0_bytes hb hx.2 _ _ _ _ _ rfl (by omega) (by omega) (by omega) (by omega) (by simp) (Nat.lt_succ_self _)
/-- What the front has read. -/
def FB (b : List Int) (r : FrontT) : Prop := r.1 = false → 9 + b.getD 8 0 ≤ b.length ∧ b.take 4 = [82, 66, 54, 52] ∧ b.getD 4 0 = 1 ∧ b.getD 5 0 ≤ 64 ∧ b.getD 6 0 ≤ 16 ∧ b.getD 7 0 ≤ 16 ∧ b.getD 8 0 ≤ b.getD 5 0 ∧ r = (false, 0, 0, b.getD 5 0, b.getD 6 0, b.getD 7 0, (b.take (9 + b.getD 8 0).toNat).drop 9, 9 + b.getD 8 0)
theorem FB.pan {b : List Int} {r : FrontT} (h : r.1 = true) : FB b r := fun h2 => by rw [h] at h2; cases h2
theorem ifront_bytes {b : List Int} (hb : Bytes b) : FB b (ifront_s b) := by
  unfold ifront_s
  refine bifP (P := FB b) (fun _ => FB.pan rfl) (fun h1 => ?_)
  refine bifP (P := FB b) (fun _ => FB.pan rfl) (fun h2 => ?_)
  refine bifP (P := FB b) (fun _ => FB.pan rfl) (fun h3 => ?_)
  refine bifP (P := FB b) (fun _ => FB.pan rfl) (fun h4 => ?_)
  refine bifP (P := FB b) (fun _ => FB.pan rfl) (fun h5 => ?_)
  refine bifP (P := FB b) (fun _ => FB.pan rfl) (fun h6 => ?_)
  refine bifP (P := FB b) (fun _ => FB.pan rfl) (fun h7 => ?_)
  refine bifP (P := FB b) (fun _ => FB.pan rfl) (fun h8 => ?_)
  refine bifP (P := FB b) (fun _ => FB.pan rfl) (fun h9 => ?_)
  refine bifP (P := FB b) (fun _ => FB.pan rfl) (fun h10 => ?_)
  refine bifP (P := FB b) (fun _ => FB.pan rfl) (fun h11 => ?_)
  refine bifP (P := FB b) (fun _ => FB.pan rfl) (fun h12 => ?_)
  refine bifP (P := FB b) (fun _ => FB.pan rfl) (fun h13 => ?_)
  intro _
  have h3 := of_decide_eq_false h3
  have h13 := of_decide_eq_false h13
  have hl : b.take 4 = [82, 66, 54, 52] := by
    have e := eq_of_beq (notF h2)
    rw [List.drop_zero, show (⟨#[82, 66, 54, 52]⟩ : ByteArray) = strOfNums [82, 66, 54, 52] from by kernel_rfl] at e
    exact nums_inj (bytes_take hb 4) (bytes_cons (by decide) (bytes_cons (by decide) (bytes_cons (by decide) (bytes_cons (by decide) bytes_nil)))) e
  have h4 : b.getD 4 0 = 1 := by
    have := bne_eq_false_iff_eq.1 h4
    rwa [show ((b.take 5).drop 4).getD 0 0 = b.getD 4 0 from getD_dt (by decide)] at this
  exact ⟨by omega, hl, h4, (outr_f h6).2, (outr_f h8).2, (outr_f h10).2, (outr_f h12).2, rfl⟩
theorem head_take {b : List Int} (hb : Bytes b) (h9 : 9 ≤ b.length) (hl : b.take 4 = [82, 66, 54, 52]) (h4 : b.getD 4 0 = 1) : b.take 9 = [82, 66, 54, 52, 1, b.getD 5 0, b.getD 6 0, b.getD 7 0, b.getD 8 0] := by
  rw [show (9 : Nat) = 4 + 1 + 1 + 1 + 1 + 1 from rfl, take_one (by omega), take_one (by omega), take_one (by omega), take_one (by omega), take_one (by omega), hl, h4]
  rfl
theorem within_yes {n lo hi : Int} (h : lo ≤ n ∧ n ≤ hi) : within_s n lo hi = true := by
  unfold within_s
  rw [decide_eq_true (show n ≥ lo by omega), decide_eq_true (show n ≤ hi by omega)]; rfl
theorem sizes_l0_yes {p : Img} (hi : Inc p.funs) (hw : within_s (p.code.length : Int) (IntKind.i64.wrap (p.funs.getD (((p.funs.length : Int) - 1).toNat) 0 + 1)) 256 = true) : ∀ (m i : Nat), (p.funs.drop 1).length - i < m → sizes_l0 p m i = true := by
  intro m
  induction m with
  | zero => intro i hm; exact absurd hm (Nat.not_lt_zero _)
  | succ m ih =>
    intro i hm
    rw [sizes_l0]
    have hl : (p.funs.drop 1).length = p.funs.length - 1 := List.length_drop
    by_cases h : (i : Int) < (p.funs.drop 1).length
    · rw [decide_eq_true h, Int.toNat_natCast, drop1_getD, decide_eq_false (by have := hi i (by omega); omega)]
      exact ih (i + 1) (by omega)
    · rw [decide_eq_false h]; exact hw
theorem sizes_yes {p : Img} (h1 : 0 ≤ p.mem ∧ p.mem ≤ 64) (h2 : 0 ≤ p.stack ∧ p.stack ≤ 16) (h3 : 0 ≤ p.input ∧ p.input ≤ 16) (h4 : (p.data.length : Int) ≤ p.mem) (r : Rt p) : sizes_s p = true := by
  have hs := r.small
  have hf : 0 ≤ p.funs.getD (p.funs.length - 1) 0 := by have := r.inc.le (Nat.zero_le (p.funs.length - 1)) (by omega); have := r.first; omega
  have hl := r.last
  have hc := r.code
  unfold sizes_s
  rw [within_yes h1, within_yes h2, within_yes h3, decide_eq_false (by omega), within_yes (n := (p.funs.length : Int)) ⟨by omega, by omega⟩, show (p.funs.getD 0 0 != 0) = false by simpa using r.first]
  simp only [Bool.not_true, cond_false]
  refine sizes_l0_yes r.inc ?_ _ 0 (Nat.lt_succ_self _)
  rw [show ((p.funs.length : Int) - 1).toNat = p.funs.length - 1 by omega, wrap_i64 (by omega) (by omega)]
  exact within_yes ⟨by omega, by omega⟩
theorem enc_l1_ok {p : Img} (hI : ∀ j, j < p.code.length → InsR (p.code.getD j default)) (hs : ¬ stray_s p ≥ 0) : ∀ (m i : Nat) (out : List Int), p.code.length - i < m → (encode_l1 p m i out).2 = 0 := by
  intro m
  induction m with
  | zero => intro i out hm; exact absurd hm (Nat.not_lt_zero _)
  | succ m ih =>
    intro i out hm
    rw [encode_l1]
    by_cases h : (i : Int) < p.code.length
    · rw [decide_eq_true h, Int.toNat_natCast, put_eq, show ((putS (p.code.getD i default)).2 != 0) = false from bne_eq_false_iff_eq.2 (hI i (by omega))]
      exact ih (i + 1) _ (by omega)
    · rw [decide_eq_false h, decide_eq_false hs]; rfl
theorem enc_ok {p : Img} (h : sizes_s p = true) (hI : ∀ j, j < p.code.length → InsR (p.code.getD j default)) (hs : ¬ stray_s p ≥ 0) : encode_s p = (imgB p, 0) := by
  rcases enc_eq h with ⟨_, _, e⟩ | e
  · exact e
  · exfalso
    apply e
    unfold encode_s
    rw [h]
    simp only [Bool.not_true, cond_false]
    have e0 := fun out => enc_l0_eq (p := p) (p.funs.length - (0 : Int).toNat + 1) 0 out (by simp)
    rw [show ((0 : Nat) : Int) = 0 from rfl] at e0
    rw [e0]
    exact enc_l1_ok hI hs _ 0 _ (Nat.lt_succ_self _)
theorem dec_data {b : List Int} (hb : Bytes b) : Bytes (imgD b).data := by
  show Bytes (ifront_s b).2.2.2.2.2.2.1
  unfold ifront_s
  have z : ∀ (x : FrontT), x.2.2.2.2.2.2.1 = [] → Bytes x.2.2.2.2.2.2.1 := fun x h => by rw [h]; exact bytes_nil
  iterate 13 (refine bifP (P := fun r : FrontT => Bytes r.2.2.2.2.2.2.1) (fun _ => bytes_nil) (fun _ => ?_))
  exact bytes_dt hb _ _
/-- What is decoded is encoded as it was. -/
theorem enc_dec {b : List Int} (hb : Bytes b) (h0 : b.length < 2 ^ 40) (h : (idec_s b).2.1 = 0) : encode_s (idec_s b).1 = (b, 0) := by
  obtain ⟨h1, h2, h3, h4, h5⟩ := idec_ok0 hb h0 h
  rw [h5]
  show encode_s (imgD b) = (b, 0)
  obtain ⟨f1, f2, f3, f4, f5, f6, f7, f8⟩ := ifront_bytes hb h1
  have g5 := getD_b hb 5
  have g6 := getD_b hb 6
  have g7 := getD_b hb 7
  have g8 := getD_b hb 8
  have R := (restB_rng hb h0 h1).1 h2
  obtain ⟨r1, r2, r3, r4, r5, r6, r7, r8, r9, r10⟩ := R
  have B := rest_bytes hb (at_ := 9 + b.getD 8 0) (mem := b.getD 5 0) (stack := b.getD 6 0) (input := b.getD 7 0) (da := (b.take (9 + b.getD 8 0).toNat).drop 9) (by omega) (by omega)
  have eR : restB b = rest_s b (9 + b.getD 8 0) (b.getD 5 0) (b.getD 6 0) (b.getD 7 0) ((b.take (9 + b.getD 8 0).toNat).drop 9) := by unfold restB; rw [f8]
  rw [← eR] at B
  obtain ⟨b1, b2, b3⟩ := B h2
  have hfl : 9 + b.getD 8 0 < b.length := by
    -- the functions' count is read
    have hlen := congrArg List.length b1
    rw [h3, Int.toNat_natCast, List.take_length] at hlen
    simp only [List.length_append, List.length_take] at hlen
    have : (twoB ((restB b).2.2.2.2.2.2.length : Int)).length = 2 := rfl
    omega
  have gn := getD_b hb (9 + b.getD 8 0).toNat
  -- the image's parts
  have pm : (imgD b).mem = b.getD 5 0 := by show (ifront_s b).2.2.2.1 = _; rw [f8]
  have ps : (imgD b).stack = b.getD 6 0 := by show (ifront_s b).2.2.2.2.1 = _; rw [f8]
  have pi : (imgD b).input = b.getD 7 0 := by show (ifront_s b).2.2.2.2.2.1 = _; rw [f8]
  have pd : (imgD b).data = (b.take (9 + b.getD 8 0).toNat).drop 9 := by show (ifront_s b).2.2.2.2.2.2.1 = _; rw [f8]
  have dl : ((imgD b).data.length : Int) = b.getD 8 0 := by rw [pd, List.length_drop, List.length_take]; omega
  have himm : ∀ j, j < (imgD b).code.length → 0 ≤ ((imgD b).code.getD j default).imm ∧ ((imgD b).code.getD j default).imm < 18446744073709551616 := fun j hj => (b3 j hj).2
  have rt : Rt (imgD b) := ⟨⟨r4, r5⟩, r6, r8, r9, r7, himm⟩
  have hs := sizes_yes (p := imgD b) (by rw [pm]; omega) (by rw [ps]; omega) (by rw [pi]; omega) (by rw [dl, pm]; omega) rt
  rw [enc_ok hs (fun j hj => (b3 j hj).1) h4]
  have e : imgB (imgD b) = b := by
    rw [h3, Int.toNat_natCast, List.take_length] at b1
    unfold imgB headB
    have hat : (9 + b.getD 8 0 + 1).toNat = (9 + b.getD 8 0).toNat + 1 := by omega
    have ht : b.take (9 + b.getD 8 0 + 1).toNat = [82, 66, 54, 52, 1, b.getD 5 0, b.getD 6 0, b.getD 7 0, b.getD 8 0] ++ (b.take (9 + b.getD 8 0).toNat).drop 9 ++ [b.getD (9 + b.getD 8 0).toNat 0] := by
      rw [hat, take_one (by omega), ← head_take hb (by omega) f2 f3]
      congr 1
      have := List.take_append_drop 9 (b.take (9 + b.getD 8 0).toNat)
      rw [take_take_le (by omega)] at this
      exact this.symm
    rw [pm, ps, pi, dl, pd, show b.getD 5 0 % 256 = b.getD 5 0 by omega, show b.getD 6 0 % 256 = b.getD 6 0 by omega, show b.getD 7 0 % 256 = b.getD 7 0 by omega, show b.getD 8 0 % 256 = b.getD 8 0 by omega]
    have hf : ((imgD b).funs.length : Int) % 256 = b.getD (9 + b.getD 8 0).toNat 0 := by
      show ((restB b).2.2.2.2.2.1.length : Int) % 256 = _
      rw [b2]; omega
    rw [hf]
    rw [ht] at b1
    exact b1.symm
  rw [e]
end Go.Proofs.Ythfgakbigpnkhaa.Sx.C3
