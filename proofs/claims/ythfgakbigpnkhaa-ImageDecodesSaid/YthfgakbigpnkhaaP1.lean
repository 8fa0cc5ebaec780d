/- What the functions of a chapter compute, as contracts; written by a program of this session. -/
import Derived.Test.YthfgakbigpnkhaaC3
open Go Go.Proofs Go.RowKit
namespace Go.Proofs.Ythfgakbigpnkhaa.Sx.C3
set_option linter.unusedVariables false
set_option linter.unusedSimpArgs false
theorem bifT {b : Bool} {x y : Bool} (h : (bif b then x else y) = true) : (b = true ∧ x = true) ∨ (b = false ∧ y = true) := by
  cases b with
  | true => exact .inl ⟨rfl, h⟩
  | false => exact .inr ⟨rfl, h⟩
theorem few_t {p : Img} (h : few_s p = true) : Small p := by
  unfold few_s at h
  rcases bifT h with ⟨h1, h⟩ | ⟨_, h⟩
  · rcases bifT h with ⟨h2, h⟩ | ⟨_, h⟩
    · have h1 := of_decide_eq_true h1
      have h2 := of_decide_eq_true h2
      have h3 := of_decide_eq_true h
      exact ⟨by omega, by omega, by omega⟩
    · cases h
  · cases h
theorem bytes_take {b : List Int} (h : Bytes b) (n : Nat) : Bytes (b.take n) := fun x hx => h x (List.mem_of_mem_take hx)
theorem bytes_app {b : List Int} (h : Bytes b) (x : Int) (hx : 0 ≤ x ∧ x ≤ 255) : Bytes (b ++ [x]) := by
  intro y hy
  rcases List.mem_append.1 hy with hy | hy
  · exact h y hy
  · rw [List.mem_singleton.1 hy]; exact hx
theorem zero_small : Small zeroI := ⟨by decide, by decide, by decide⟩
theorem idec_small {b : List Int} (hb : Bytes b) (h0 : b.length < 2 ^ 40) : Small (idec_s b).1 := by
  unfold idec_s
  refine bifP (P := fun r : Img × Int × Int => Small r.1) (fun h => zero_small) (fun h1 => ?_)
  refine bifP (P := fun r : Img × Int × Int => Small r.1) (fun h => zero_small) (fun h2 => ?_)
  refine bifP (P := fun r : Img × Int × Int => Small r.1) (fun h => zero_small) (fun h => ?_)
  refine bifP (P := fun r : Img × Int × Int => Small r.1) (fun h => zero_small) (fun h => (imgD_ok hb h0 h1 h2).1)
/-! what is put -/
theorem bytes_cat {a b : List Int} (h1 : Bytes a) (h2 : Bytes b) : Bytes (a ++ b) := by
  intro y hy
  rcases List.mem_append.1 hy with hy | hy
  · exact h1 y hy
  · exact h2 y hy
theorem m256 (x : Int) : 0 ≤ x % 256 ∧ x % 256 ≤ 255 := by omega
theorem bytes_cons {x : Int} {l : List Int} (h : 0 ≤ x ∧ x ≤ 255) (h2 : Bytes l) : Bytes (x :: l) := by
  intro y hy
  rcases List.mem_cons.1 hy with rfl | hy
  · exact h
  · exact h2 y hy
theorem bytes_nil : Bytes [] := fun x hx => by cases hx
theorem be_bytes (n : Int) : Bytes (be n) := by
  unfold be
  repeat' (first | exact bytes_nil | refine bytes_cons (m256 _) ?_)
theorem put_bytes (i : Ins) : Bytes (put_s i).1 := by
  rw [put_eq]
  unfold putS
  refine bifP (P := fun r : List Int × Int => Bytes r.1) (fun h => ?_) (fun h => bytes_nil)
  refine bifP (P := fun r : List Int × Int => Bytes r.1) (fun h => ?_) (fun h => bytes_nil)
  exact bytes_cat (bytes_cons (m256 _) (bytes_cons (m256 _) (bytes_cons (m256 _) (bytes_cons (m256 _) bytes_nil)))) (be_bytes _)
theorem enc_l1_bytes (p : Img) : ∀ (m : Nat) (i : Int) (out : List Int), Bytes out → Bytes (encode_l1 p m i out).1 := by
  intro m
  induction m with
  | zero => intro i out _; exact bytes_nil
  | succ m ih =>
    intro i out h
    rw [encode_l1]
    refine bifP (P := fun r : List Int × Int => Bytes r.1) (fun _ => ?_) (fun _ => ?_)
    · refine bifP (P := fun r : List Int × Int => Bytes r.1) (fun _ => bytes_nil) (fun _ => ih _ _ (bytes_cat h (put_bytes _)))
    · exact bifP (P := fun r : List Int × Int => Bytes r.1) (fun _ => bytes_nil) (fun _ => h)
theorem enc_l0_bytes (p : Img) : ∀ (m : Nat) (i : Int) (out : List Int), Bytes out → Bytes (encode_l0 p m i out).1 := by
  intro m
  induction m with
  | zero => intro i out _; exact bytes_nil
  | succ m ih =>
    intro i out h
    rw [encode_l0]
    refine bifP (P := fun r : List Int × Int => Bytes r.1) (fun _ => ih _ _ (bytes_cat h ?_)) (fun _ => enc_l1_bytes p _ _ _ (bytes_cat h ?_))
    · rw [wu8, wu8]; exact bytes_cons (m256 _) (bytes_cons (m256 _) bytes_nil)
    · rw [wu8, wu8]; exact bytes_cons (m256 _) (bytes_cons (m256 _) bytes_nil)
theorem enc_bytes {p : Img} (hd : Bytes p.data) : Bytes (encode_s p).1 := by
  unfold encode_s
  refine bifP (P := fun r : List Int × Int => Bytes r.1) (fun _ => bytes_nil) (fun _ => enc_l0_bytes p _ _ _ ?_)
  refine bytes_cat (bytes_cat (bytes_cat ?_ ?_) hd) ?_
  · exact bytes_cons (by decide) (bytes_cons (by decide) (bytes_cons (by decide) (bytes_cons (by decide) bytes_nil)))
  · rw [wu8, wu8, wu8, wu8]
    exact bytes_cons (by decide) (bytes_cons (m256 _) (bytes_cons (m256 _) (bytes_cons (m256 _) (bytes_cons (m256 _) bytes_nil))))
  · rw [wu8]; exact bytes_cons (m256 _) bytes_nil
/-! sizes -/
theorem drop1_getD (l : List Int) (i : Nat) : (l.drop 1).getD i 0 = l.getD (i + 1) 0 := by
  rw [List.getD_eq_getElem?_getD, List.getElem?_drop, ← List.getD_eq_getElem?_getD, Nat.add_comm]
theorem sizes_l0_t {p : Img} : ∀ (m : Nat) (i : Nat), sizes_l0 p m i = true → (p.funs.drop 1).length - i < m →
    (∀ j, i ≤ j → j + 1 < p.funs.length → p.funs.getD j 0 < p.funs.getD (j + 1) 0) ∧ IntKind.i64.wrap (p.funs.getD (((p.funs.length : Int) - 1).toNat) 0 + 1) ≤ p.code.length ∧ p.code.length ≤ 256 := by
  intro m
  induction m with
  | zero => intro i _ hm; exact absurd hm (Nat.not_lt_zero _)
  | succ m ih =>
    intro i h hm
    rw [sizes_l0] at h
    have hl : (p.funs.drop 1).length = p.funs.length - 1 := List.length_drop
    rcases bifT h with ⟨h1, h⟩ | ⟨h1, h⟩
    · have h1 := of_decide_eq_true h1
      rcases bifT h with ⟨_, h⟩ | ⟨h2, h⟩
      · cases h
      · have h2 := of_decide_eq_false h2
        rw [Int.toNat_natCast, drop1_getD] at h2
        obtain ⟨q1, q2⟩ := ih (i + 1) h (by omega)
        refine ⟨fun j h3 h4 => ?_, q2⟩
        by_cases e : j = i
        · subst e; omega
        · exact q1 j (by omega) h4
    · have h1 := of_decide_eq_false h1
      have := within_t h
      exact ⟨fun j h3 h4 => by omega, this.1, by omega⟩
/-- What an image is of which all numbers and counts are right. -/
structure Sized (p : Img) : Prop where
  mem : 0 ≤ p.mem ∧ p.mem ≤ 64
  stack : 0 ≤ p.stack ∧ p.stack ≤ 16
  input : 0 ≤ p.input ∧ p.input ≤ 16
  data : (p.data.length : Int) ≤ p.mem
  funs : 1 ≤ p.funs.length ∧ p.funs.length ≤ 16
  first : p.funs.getD 0 0 = 0
  inc : Inc p.funs
  last : IntKind.i64.wrap (p.funs.getD (p.funs.length - 1) 0 + 1) ≤ p.code.length
  code : p.code.length ≤ 256
theorem sizes_sized {p : Img} (h : sizes_s p = true) : Sized p := by
  unfold sizes_s at h
  rcases bifT h with ⟨_, h⟩ | ⟨h1, h⟩
  · cases h
  rcases bifT h with ⟨_, h⟩ | ⟨h2, h⟩
  · cases h
  rcases bifT h with ⟨_, h⟩ | ⟨h3, h⟩
  · cases h
  rcases bifT h with ⟨_, h⟩ | ⟨h4, h⟩
  · cases h
  rcases bifT h with ⟨_, h⟩ | ⟨h5, h⟩
  · cases h
  rcases bifT h with ⟨_, h⟩ | ⟨h6, h⟩
  · cases h
  have h5 := within_t (notF h5)
  have q := sizes_l0_t _ 0 h (Nat.lt_succ_self _)
  have e : ((p.funs.length : Int) - 1).toNat = p.funs.length - 1 := by omega
  rw [e] at q
  exact ⟨within_t (notF h1), within_t (notF h2), within_t (notF h3), by have := of_decide_eq_false h4; omega, ⟨by omega, by omega⟩, by simpa using h6, fun j hj => q.1 j (by omega) hj, q.2.1, q.2.2⟩
theorem enc_l1_len (p : Img) : ∀ (m : Nat) (i : Nat) (out : List Int) (N : Nat), out.length + 12 * (p.code.length - i) ≤ N → (encode_l1 p m i out).1.length ≤ N := by
  intro m
  induction m with
  | zero => intro i out N h; exact Nat.zero_le _
  | succ m ih =>
    intro i out N h
    rw [encode_l1]
    refine bifP (P := fun r : List Int × Int => r.1.length ≤ N) (fun h1 => ?_) (fun _ => ?_)
    · have h1 := of_decide_eq_true h1
      refine bifP (P := fun r : List Int × Int => r.1.length ≤ N) (fun _ => Nat.zero_le _) (fun _ => ih (i + 1) _ _ ?_)
      have := put_len (p.code.getD (i : Int).toNat default)
      rw [List.length_append]; omega
    · exact bifP (P := fun r : List Int × Int => r.1.length ≤ N) (fun _ => Nat.zero_le _) (fun _ => by show out.length ≤ N; omega)
theorem enc_l0_len (p : Img) : ∀ (m : Nat) (i : Nat) (out : List Int) (N : Nat), out.length + 2 * (p.funs.length - i) + 2 + 12 * p.code.length ≤ N → (encode_l0 p m i out).1.length ≤ N := by
  intro m
  induction m with
  | zero => intro i out N h; exact Nat.zero_le _
  | succ m ih =>
    intro i out N h
    rw [encode_l0]
    refine bifP (P := fun r : List Int × Int => r.1.length ≤ N) (fun h1 => ?_) (fun _ => ?_)
    · have h1 := of_decide_eq_true h1
      exact ih (i + 1) _ _ (by rw [List.length_append]; simp; omega)
    · exact enc_l1_len p _ 0 _ _ (by rw [List.length_append]; simp; omega)
theorem enc_len (p : Img) : (encode_s p).1.length < 2 ^ 40 := by
  unfold encode_s
  cases h : sizes_s p with
  | false => show ([] : List Int).length < 2 ^ 40; decide
  | true =>
    have s := sizes_sized h
    have h1 := s.data
    have h2 := s.mem
    have h3 := s.funs
    have h4 := s.code
    refine Nat.lt_of_le_of_lt (enc_l0_len p _ 0 _ 4000 ?_) (by decide)
    simp; omega
/-! where it doesn't flow -/
theorem idx_rng {p : Img} {l : List Int} : ∀ (m : Nat) (i : Nat), l.length - i < m → idx_l0 p l m i = -1 ∨ ((i : Int) ≤ idx_l0 p l m i ∧ idx_l0 p l m i < l.length) := by
  intro m
  induction m with
  | zero => intro i hm; exact absurd hm (Nat.not_lt_zero _)
  | succ m ih =>
    intro i hm
    rw [idx_l0]
    refine bifP (P := fun r : Int => r = -1 ∨ ((i : Int) ≤ r ∧ r < l.length)) (fun h1 => ?_) (fun _ => .inl rfl)
    have h1 := of_decide_eq_true h1
    refine bifP (P := fun r : Int => r = -1 ∨ ((i : Int) ≤ r ∧ r < l.length)) (fun _ => .inr ⟨by omega, h1⟩) (fun _ => ?_)
    have := ih (i + 1) (by omega)
    rw [show ((i + 1 : Nat) : Int) = (i : Int) + 1 from rfl] at this
    omega
theorem stray_rng (p : Img) : stray_s p = -1 ∨ (0 ≤ stray_s p ∧ stray_s p < p.code.length) := by
  unfold stray_s idx_s
  have h := idx_rng (p := p) (l := places_s p) ((places_s p).length - (0 : Int).toNat + 1) 0 (Nat.lt_succ_self _)
  rw [(places_eq p).1] at h ⊢
  exact h
end Go.Proofs.Ythfgakbigpnkhaa.Sx.C3
