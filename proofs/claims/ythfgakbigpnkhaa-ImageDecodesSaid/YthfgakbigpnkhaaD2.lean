/- What the functions of a chapter compute, as contracts; written by a program of this session. -/
import Derived.Test.YthfgakbigpnkhaaD1
import Derived.Test.YthfgakbigpnkhaaQ2
open Go Go.Proofs Go.RowKit
namespace Go.Proofs.Ythfgakbigpnkhaa.Sx.C3
set_option linter.unusedVariables false
set_option linter.unusedSimpArgs false
abbrev RestT := Bool × Int × Int × Int × Int × List Int × List Ins
/-- Numbers that rise. -/
def Inc (l : List Int) : Prop := ∀ i, i + 1 < l.length → l.getD i 0 < l.getD (i + 1) 0
theorem Inc.push {l : List Int} {x : Int} (h : Inc l) (hx : l.length = 0 ∨ l.getD (l.length - 1) 0 < x) : Inc (l ++ [x]) := by
  intro i hi
  rw [List.length_append] at hi
  simp at hi
  rw [List.getD_eq_getElem?_getD, List.getElem?_append_left (by omega), ← List.getD_eq_getElem?_getD]
  by_cases e : i + 1 < l.length
  · rw [List.getD_eq_getElem?_getD (i := i + 1), List.getElem?_append_left e, ← List.getD_eq_getElem?_getD]
    exact h i e
  · have e2 : i = l.length - 1 := by omega
    have e3 : i + 1 = l.length := by omega
    rw [List.getD_eq_getElem?_getD (i := i + 1), List.getElem?_append_right (by omega), e3, Nat.sub_self, e2]
    rcases hx with hx | hx
    · omega
    · simpa using hx
theorem getD_push {l : List Int} {x : Int} : (l ++ [x]).getD ((l ++ [x]).length - 1) 0 = x := by
  rw [List.length_append, List.getD_eq_getElem?_getD, List.getElem?_append_right (by simp)]; simp
/-- What is known of what the reader's rest has read; where it is broken off, what is told. -/
def RestOk (b : List Int) (r : RestT) : Prop :=
  (r.1 = false → 0 ≤ r.2.2.2.1 ∧ r.2.2.2.1 + 12 * (r.2.2.2.2.2.2.length : Int) = r.2.2.2.2.1 ∧ r.2.2.2.2.1 ≤ b.length ∧ 0 < r.2.2.2.2.2.1.length ∧ r.2.2.2.2.2.1.length ≤ 16 ∧ r.2.2.2.2.2.1.getD 0 0 = 0 ∧ r.2.2.2.2.2.2.length ≤ 256 ∧ Inc r.2.2.2.2.2.1 ∧ r.2.2.2.2.2.1.getD (r.2.2.2.2.2.1.length - 1) 0 < (r.2.2.2.2.2.2.length : Int) ∧ 0 < r.2.2.2.2.2.2.length) ∧
  (r.1 = true → (r.2.1 = 1 ∧ r.2.2.1 = b.length) ∨ ((r.2.1 = 3 ∨ r.2.1 = 4 ∨ r.2.1 = 5) ∧ 0 ≤ r.2.2.1 ∧ r.2.2.1 < b.length))
theorem restShort {b : List Int} {x : RestT} (h1 : x.1 = true) (h2 : x.2.1 = 1) (h3 : x.2.2.1 = b.length) : RestOk b x := ⟨fun h => (by rw [h1] at h; cases h), fun _ => .inl ⟨h2, h3⟩⟩
theorem restRng {b : List Int} {x : RestT} (h1 : x.1 = true) (h2 : x.2.1 = 3 ∨ x.2.1 = 4 ∨ x.2.1 = 5) (h3 : 0 ≤ x.2.2.1) (h4 : x.2.2.1 < b.length) : RestOk b x := ⟨fun h => (by rw [h1] at h; cases h), fun _ => .inr ⟨h2, h3, h4⟩⟩
theorem wrapI {x : Int} (h0 : 0 ≤ x) (h1 : x < 2 ^ 62) : IntKind.i64.wrap x = x := wrap_i64 h0 h1
theorem rest_l1_rng {b : List Int} (hb : Bytes b) (h0 : b.length < 2 ^ 40) {at_ mem stack input : Int} {da : List Int} : ∀ (m : Nat) (i n first pos : Int) (fs : List Int) (is : List Ins), (is.length : Int) = i → i ≤ n → 1 ≤ n → n ≤ 256 → 0 ≤ first → first + 12 * i = pos → pos ≤ b.length → 0 < fs.length → fs.length ≤ 16 → fs.getD 0 0 = 0 → Inc fs → fs.getD (fs.length - 1) 0 < n → (256 - i).toNat < m → RestOk b (rest_l1 b at_ mem stack input da m i n first pos fs is) := by
  intro m
  induction m with
  | zero => intros; rename_i hm; exact absurd hm (Nat.not_lt_zero _)
  | succ m ih =>
    intro i n first pos fs is h1 h2 h3 h4 h5 h6 h7 h8 h9 h10 h11 h12 hm
    rw [rest_l1]
    refine bifP (fun h => ?_) (fun h => ?_)
    · have := of_decide_eq_true h
      have ge := get_eq (bytes_drop hb pos.toNat)
      refine bifP (fun h => ?_) (fun h => ?_)
      · have hne : (get_s (b.drop pos.toNat)).2.1 ≠ 0 := bne_iff_ne.1 h
        rw [ge] at hne ⊢
        have hl : (b.drop pos.toNat).length = b.length - pos.toNat := List.length_drop
        rcases getS_err (b := b.drop pos.toNat) with e | e | e | e
        · exact absurd e.1 hne
        · refine restShort rfl e.1 ?_
          show IntKind.i64.wrap (pos + (getS (b.drop pos.toNat)).2.2) = b.length
          rw [e.2.1, hl, wrapI (by omega) (by omega)]; omega
        · refine restRng rfl (.inr (.inl e.1)) ?_ ?_
          · show 0 ≤ IntKind.i64.wrap (pos + (getS (b.drop pos.toNat)).2.2)
            rw [e.2.1, wrapI (by omega) (by omega)]; omega
          · show IntKind.i64.wrap (pos + (getS (b.drop pos.toNat)).2.2) < b.length
            rw [e.2.1, wrapI (by omega) (by omega)]; omega
        · refine restRng rfl (.inr (.inr e.1)) ?_ ?_
          · show 0 ≤ IntKind.i64.wrap (pos + (getS (b.drop pos.toNat)).2.2)
            rw [wrapI (by omega) (by omega)]; omega
          · show IntKind.i64.wrap (pos + (getS (b.drop pos.toNat)).2.2) < b.length
            rw [wrapI (by omega) (by omega)]; omega
      · have hl := get_len (b := b.drop pos.toNat) (bne_eq_false_iff_eq.1 h)
        rw [List.length_drop] at hl
        exact ih _ _ _ _ _ _ (by rw [List.length_append]; simp; omega) (by omega) h3 h4 h5 (by omega) (by omega) h8 h9 h10 h11 h12 (by omega)
    · have := of_decide_eq_false h
      refine ⟨fun _ => ⟨h5, ?_, h7, h8, h9, h10, ?_, h11, ?_, ?_⟩, fun h => by cases h⟩
      · show first + 12 * (is.length : Int) = pos; omega
      · show is.length ≤ 256; omega
      · show fs.getD (fs.length - 1) 0 < (is.length : Int); omega
      · show 0 < is.length; omega
theorem rest_l0_rng {b : List Int} (hb : Bytes b) (h0 : b.length < 2 ^ 40) {at_ mem stack input : Int} {da : List Int} (hn : 1 ≤ b.getD at_.toNat 0 ∧ b.getD at_.toNat 0 ≤ 16) : ∀ (m : Nat) (i last pos : Int) (fs : List Int), (fs.length : Int) = i → i ≤ 16 → 0 ≤ pos → pos ≤ b.length → ((i = 0 ∧ last = -1) ∨ (1 ≤ i ∧ fs.getD 0 0 = 0 ∧ 0 ≤ last ∧ fs.getD (fs.length - 1) 0 = last)) → Inc fs → (16 - i).toNat < m → RestOk b (rest_l0 b at_ mem stack input da m i last pos fs) := by
  intro m
  induction m with
  | zero => intros; rename_i hm; exact absurd hm (Nat.not_lt_zero _)
  | succ m ih =>
    intro i last pos fs h1 h2 h3 h4 h5 hI hm
    rw [rest_l0]
    refine bifP (fun h => ?_) (fun h => ?_)
    · have := of_decide_eq_true h
      refine bifP (fun h => ?_) (fun h => ?_)
      · have hneg := of_decide_eq_true h
        refine bifP (fun h => ?_) (fun h => ?_)
        · exact restShort rfl rfl rfl
        have hp := of_decide_eq_false h
        refine bifP (fun h => ?_) (fun h => ?_)
        · exact restRng rfl (.inl rfl) h3 (by show pos < _; omega)
        have hx := outr_f h
        have h0 : i = 0 := by omega
        have hf : fs = [] := List.eq_nil_of_length_eq_zero (by omega)
        subst hf
        exact ih _ _ _ _ (by rw [List.length_append]; simp; omega) (by omega) (by omega) (by omega) (.inr ⟨by omega, by show 256 * b.getD pos.toNat 0 + b.getD (pos + 1).toNat 0 = 0; omega, by omega, getD_push⟩) (hI.push (.inl rfl)) (by omega)
      · have hnn := of_decide_eq_false h
        refine bifP (fun h => ?_) (fun h => ?_)
        · exact restShort rfl rfl rfl
        have hp := of_decide_eq_false h
        refine bifP (fun h => ?_) (fun h => ?_)
        · exact restRng rfl (.inl rfl) h3 (by show pos < _; omega)
        have hx := outr_f h
        rcases h5 with h5 | ⟨h5, h6, h7, h8⟩
        · omega
        · exact ih _ _ _ _ (by rw [List.length_append]; simp; omega) (by omega) (by omega) (by omega) (.inr ⟨by omega, by rw [List.getD_eq_getElem?_getD, List.getElem?_append_left (by omega), ← List.getD_eq_getElem?_getD]; exact h6, by omega, getD_push⟩) (hI.push (.inr (by omega))) (by omega)
    · have := of_decide_eq_false h
      refine bifP (fun h => ?_) (fun h => ?_)
      · exact restShort rfl rfl rfl
      have hp := of_decide_eq_false h
      refine bifP (fun h => ?_) (fun h => ?_)
      · exact restRng rfl (.inl rfl) h3 (by show pos < _; omega)
      have hx := outr_f h
      rcases h5 with h5 | ⟨h5, h6, h7, h8⟩
      · omega
      · exact rest_l1_rng hb h0 _ _ _ _ _ _ _ rfl (by omega) (by omega) hx.2 (by omega) (by simp) (by omega) (by omega) (by omega) h6 hI (by omega) (Nat.lt_succ_self _)
theorem rest_rng {b : List Int} (hb : Bytes b) (h0 : b.length < 2 ^ 40) {at_ mem stack input : Int} {da : List Int} (a0 : 0 ≤ at_) (a1 : at_ ≤ b.length) : RestOk b (rest_s b at_ mem stack input da) := by
  unfold rest_s
  refine bifP (fun h => ?_) (fun h => ?_)
  · exact restShort rfl rfl rfl
  have hp := of_decide_eq_false h
  refine bifP (fun h => ?_) (fun h => ?_)
  · exact restRng rfl (.inl rfl) a0 (by show at_ < _; omega)
  exact rest_l0_rng hb h0 (outr_f h) _ _ _ _ _ rfl (by omega) (by omega) (by omega) (.inl ⟨rfl, rfl⟩) (fun i hi => by simp at hi) (Nat.lt_succ_self _)
abbrev FrontT := Bool × Int × Int × Int × Int × Int × List Int × Int
def IFrontOk (b : List Int) (r : FrontT) : Prop := r.1 = false → 0 ≤ r.2.2.2.2.2.2.2 ∧ r.2.2.2.2.2.2.2 ≤ b.length ∧ r.2.2.2.2.2.2.1.length ≤ b.length
theorem ifront_rng {b : List Int} : IFrontOk b (ifront_s b) := by
  unfold ifront_s
  iterate 13 (refine bifP (fun h => ?_) (fun h => ?_); · intro h; cases h)
  rename_i h8
  have h1 := outr_f h8
  have h2 := of_decide_eq_false h
  intro _
  refine ⟨by show 0 ≤ 9 + b.getD 8 0; omega, by show 9 + b.getD 8 0 ≤ _; omega, ?_⟩
  show (List.drop 9 (List.take _ b)).length ≤ b.length
  rw [List.length_drop, List.length_take]; omega
def zeroI : Img := ⟨0, 0, 0, [], [], []⟩
/-- What the reader's front and rest tell together. -/
def restB (b : List Int) : RestT := rest_s b (ifront_s b).2.2.2.2.2.2.2 (ifront_s b).2.2.2.1 (ifront_s b).2.2.2.2.1 (ifront_s b).2.2.2.2.2.1 (ifront_s b).2.2.2.2.2.2.1
def imgD (b : List Int) : Img := ⟨(ifront_s b).2.2.2.1, (ifront_s b).2.2.2.2.1, (ifront_s b).2.2.2.2.2.1, (ifront_s b).2.2.2.2.2.2.1, (restB b).2.2.2.2.2.1, (restB b).2.2.2.2.2.2⟩
theorem restB_rng {b : List Int} (hb : Bytes b) (h0 : b.length < 2 ^ 40) (h1 : (ifront_s b).1 = false) : RestOk b (restB b) := rest_rng hb h0 (ifront_rng h1).1 (ifront_rng h1).2.1
theorem imgD_ok {b : List Int} (hb : Bytes b) (h0 : b.length < 2 ^ 40) (h1 : (ifront_s b).1 = false) (h2 : (restB b).1 = false) : Small (imgD b) ∧ 0 < (imgD b).funs.length ∧ (imgD b).funs.getD 0 0 = 0 := by
  have q1 := (ifront_rng h1).2.2
  obtain ⟨_, _, _, q2, q3, q4, q5, _⟩ := (restB_rng hb h0 h1).1 h2
  exact ⟨⟨Nat.lt_of_le_of_lt q1 h0, Nat.lt_of_le_of_lt q3 (by decide), Nat.lt_of_le_of_lt q5 (by decide)⟩, q2, q4⟩
def decT (b : List Int) : TL := [(0, .ro 1 b.length (b.map eb)), (2, .ptr 502 0), (3, .ptr 602 0), (4, .ptr 603 0)]
/-- A way of image.Decode, from its deferred call on. -/
theorem dec_way {b : List Int} {pan : Bool} {WH : HL} {hints : List (Nat × Hint)} {C : List Prop} {fin : FinD} {res : AV} (he : runD Try.prog Try.f10 (cloZ 0 0) hints doorT WH pan 400 (tailD (cutAt Try.f10 1)) (decT b) (cloZ 0 0) = some (C, fin)) (hc : All C)
    (hfin : ∀ ρ0 D0 w0 ρ D w, St (look []) ρ0 D0 w0 (look (cloZ 0 0)) ρ D w → endD Try.prog Try.f10 (cloZ 0 0) doorT WH (Owes (look []) false res (look []) ρ0 D0 w0) (door ρ) ρ D w fin) : Ok Try.prog 10 [.ro 1 b.length (b.map eb)] (look []) res (postOf [] []) := by
  refine ok_head (ch := []) (T := decT b) (H := cloZ 0 0) (todo := cutAt Try.f10 1) (C := []) Try.func10 rfl rfl mixed 400 [(0, .nm 502), (1, .nm 602), (2, .nm 603), (1999, .b true)] .nil (by kernel_rfl) ?_
  rw [show postOf [] [] = look [] from by funext n; rfl]
  intro ρ0 D0 w0 ρ D a w hT hS
  have e2 := ptr_of (hT.reps 2 (by simp [Try.ntmps10]))
  have e3 := ptr_of (hT.reps 3 (by simp [Try.ntmps10]))
  have e4 := ptr_of (hT.reps 4 (by simp [Try.ntmps10]))
  refine goes_defer (g := 19) (d := 8) (caps := #[.tmp 2, .tmp 3, .tmp 4]) (k := tailD (cutAt Try.f10 1)) (by kernel_rfl) (by rw [hT.size]; simp [Try.ntmps10]) hT.defers ?_
  have ec : (#[.tmp 2, .tmp 3, .tmp 4] : Array Operand).map a.eval = #[ρ 502, ρ 602, ρ 603] := by
    simp only [List.map_toArray, List.map_cons, List.map_nil, Act.eval, e2, e3, e4]
  rw [ec]
  refine runD_ok (ds := door ρ) Try.func10 mixed 400 _ _ _ _ _ he hc (hfin ρ0 D0 w0 ρ D w hS) ρ D _ w (TRep.ofList (by simp [hT.size]) rfl fun x hx => ?_) hS.same
  have old : ∀ t x, t < Try.f10.ntmps → t ≠ 8 → getT (decT b) t = x → Rep ρ D x ((a.tmps.setIfInBounds 8 (.func (.func 19) #[] #[ρ 502, ρ 602, ρ 603])).getD t undef) := by
    intro t x ht hn hx
    have := hT.reps t ht
    rw [hx] at this
    rwa [Array.getD_eq_getD_getElem?, Array.getElem?_setIfInBounds_ne (Ne.symm hn), ← Array.getD_eq_getD_getElem?]
  simp only [decT, List.mem_cons, List.not_mem_nil, or_false] at hx
  rcases hx with rfl | rfl | rfl | rfl
  · exact old 0 _ (by simp [Try.ntmps10]) (by decide) rfl
  · exact old 2 _ (by simp [Try.ntmps10]) (by decide) rfl
  · exact old 3 _ (by simp [Try.ntmps10]) (by decide) rfl
  · exact old 4 _ (by simp [Try.ntmps10]) (by decide) rfl
end Go.Proofs.Ythfgakbigpnkhaa.Sx.C3
