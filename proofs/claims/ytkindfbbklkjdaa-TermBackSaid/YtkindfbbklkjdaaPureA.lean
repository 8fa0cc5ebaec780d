/- Layer 6 (term), the plain law: what the program's and the document's functions come to. -/
import Derived.Test.YtkindfbbklkjdaaPx8
import Derived.Test.YtkindfbbklkjdaaPx16
import Derived.Test.YtkindfbbklkjdaaPx23
import Derived.Test.YtkindfbbklkjdaaPx24
namespace Go.Proofs.Ytkindfbbklkjdaa.Pure
open Go.RowKit Go.Proofs.Ytkindfbbklkjdaa.P Go.Proofs.YtkindfbbklkjdaaW.PrintWords Go.Proofs.YtkindfbbklkjdaaW.PrintLast Go.Proofs.YtkindfbbklkjdaaW.PrintMore
set_option linter.unusedVariables false
set_option linter.unusedSimpArgs false

/-- With enough rounds it answers r. -/
def Ult {α : Type} (g : Nat → Option α) (r : α) : Prop := ∃ K, ∀ k, K ≤ k → g k = some r
theorem Ult.bind {α β : Type} {g : Nat → Option α} {f : Nat → α → Option β} {a : α} {r : β} (h : Ult g a) (k : Ult (fun n => f n a) r) : Ult (fun n => (g n).bind (f n)) r := by
  obtain ⟨K, hK⟩ := h
  obtain ⟨M, hM⟩ := k
  exact ⟨max K M, fun n hn => by show (g n).bind (f n) = some r; rw [hK n (by omega)]; exact hM n (by omega)⟩
theorem Ult.step {α : Type} {g f : Nat → Option α} {r : α} (c : Nat) (h : ∀ k, g (k + c) = f k) (k : Ult f r) : Ult g r := by
  obtain ⟨K, hK⟩ := k
  exact ⟨K + c, fun n hn => by obtain ⟨m, rfl⟩ : ∃ m, n = m + c := ⟨n - c, by omega⟩; rw [h]; exact hK m (by omega)⟩
theorem Ult.later {α : Type} {g : Nat → Option α} {r : α} (c : Nat) (h : Ult g r) : Ult (fun k => g (k + c)) r := by
  obtain ⟨K, hK⟩ := h
  exact ⟨K, fun n hn => hK (n + c) (by omega)⟩
theorem Ult.now {α : Type} (r : α) : Ult (fun _ => some r) r := ⟨0, fun _ _ => rfl⟩
theorem Ult.ex {α : Type} {g : Nat → Option α} {r : α} (h : Ult g r) : ∃ k, g k = some r := by
  obtain ⟨K, hK⟩ := h
  exact ⟨K, hK K (Nat.le_refl _)⟩
theorem Ult.one {α : Type} {g : Nat → Option α} {r q : α} (h : Ult g r) (h' : Ult g q) : r = q := by
  obtain ⟨K, hK⟩ := h
  obtain ⟨M, hM⟩ := h'
  have e1 := hK (max K M) (by omega)
  have e2 := hM (max K M) (by omega)
  rw [e1] at e2
  exact Option.some.inj e2

/-- How many kids. -/
def kidsN (op : Int) : Int := if op < 5 ∨ op > 24 then 0 else if op ≤ 7 then 1 else if op ≤ 21 ∨ op = 23 then 2 else 3
theorem kidsN_range (op : Int) : 0 ≤ kidsN op ∧ kidsN op ≤ 3 := by
  unfold kidsN
  repeat' split
  all_goals omega
theorem kids_term (op : Int) : Ult (fun k => term_Kids.f k op) (kidsN op) := by
  refine ⟨1, fun k hk => ?_⟩
  obtain ⟨k, rfl⟩ : ∃ m, k = m + 1 := ⟨k - 1, by omega⟩
  by_cases h1 : op < 5 <;> by_cases h2 : op > 24 <;> by_cases h3 : op ≤ 7 <;> by_cases h4 : op ≤ 21 <;> by_cases h5 : op = 23 <;> simp [term_Kids.f, term_Kids.j0, kidsN, h1, h2, h3, h4, h5]
theorem kids_ref (op : Int) : Ult (fun k => backreachref06_Kids.f k op) (kidsN op) := by
  refine ⟨2, fun k hk => ?_⟩
  obtain ⟨k, rfl⟩ : ∃ m, k = m + 2 := ⟨k - 2, by omega⟩
  simp only [backreachref06_Kids.f, backreachref06_Kids.j0, backreachref06_Kids.j1, kidsN]
  by_cases h1 : op < 5
  · have : ¬ op ≥ 5 := by omega
    have : ¬ op ≥ 8 := by omega
    have : ¬ op = 22 := by omega
    have : ¬ op = 23 := by omega
    have : ¬ op = 24 := by omega
    simp [*]
  · by_cases h2 : op > 24
    · have : op ≥ 5 := by omega
      have : op ≥ 8 := by omega
      have : ¬ op ≤ 7 := by omega
      have : ¬ op ≤ 21 := by omega
      have : ¬ op = 22 := by omega
      have : ¬ op = 23 := by omega
      have : ¬ op = 24 := by omega
      simp [*]
    · have h5 : op ≥ 5 := by omega
      have hn : ¬ (op < 5 ∨ op > 24) := by omega
      rw [if_pos h5, if_neg hn]
      by_cases h3 : op ≤ 7
      · simp [h3]
      · have h8 : op ≥ 8 := by omega
        by_cases h4 : op ≤ 21
        · simp [h3, h4, h8]
        · by_cases h6 : op = 23
          · simp [h6]
          · by_cases h7 : op = 22
            · simp [h7]
            · have h9 : op = 24 := by omega
              simp [h9]

/-- May a kid's place be so? Its width. -/
def kidOk (l : List S32) (has j c : Int) : Prop := if j ≥ has then c = 0 else 0 ≤ c ∧ c < l.length
instance (l : List S32) (has j c : Int) : Decidable (kidOk l has j c) := by unfold kidOk; infer_instance
def wd (l : List S32) (has j c : Int) : Int := if j ≥ has then 0 else (rd_T32 l c).f1

theorem tk0 (k : Nat) (l : List S32) (has c0 c1 c2 c3 c4 c5 o1 o2 : Int) : term_kids.l0 (k + 2) l has 0 c0 c1 c2 c3 c4 c5 0 o1 o2 =
    if kidOk l has 0 c3 then term_kids.l0 (if 0 ≥ has then k + 1 else k) l has 1 c0 c1 c2 c3 c4 c5 (wd l has 0 c3) o1 o2 else some (0, o1, o2, false) := by
  by_cases h : 0 ≥ has
  · simp only [term_kids.l0, kidOk, wd, if_pos h]
    simp [wrap64]
  · simp only [term_kids.l0, term_kids.j1, kidOk, wd, if_neg h]
    by_cases h1 : c3 < 0
    · have h0 : ¬ 0 ≤ c3 := by omega
      simp [h1, h0]
    · have h0 : 0 ≤ c3 := by omega
      by_cases h2 : c3 < (l.length : Int)
      · have h3 : ¬ (l.length : Int) ≤ c3 := by omega
        simp [h0, h1, h2, h3, wrap64]
      · have h3 : (l.length : Int) ≤ c3 := by omega
        simp [h0, h1, h2, h3, wrap64]
theorem tk1 (k : Nat) (l : List S32) (has c0 c1 c2 c3 c4 c5 o0 o2 : Int) : term_kids.l0 (k + 2) l has 1 c0 c1 c2 c3 c4 c5 o0 0 o2 =
    if kidOk l has 1 c4 then term_kids.l0 (if 1 ≥ has then k + 1 else k) l has 2 c0 c1 c2 c3 c4 c5 o0 (wd l has 1 c4) o2 else some (o0, 0, o2, false) := by
  by_cases h : 1 ≥ has
  · simp only [term_kids.l0, kidOk, wd, if_pos h]
    simp [wrap64]
  · simp only [term_kids.l0, term_kids.j1, kidOk, wd, if_neg h]
    by_cases h1 : c4 < 0
    · have h0 : ¬ 0 ≤ c4 := by omega
      simp [h1, h0]
    · have h0 : 0 ≤ c4 := by omega
      by_cases h2 : c4 < (l.length : Int)
      · have h3 : ¬ (l.length : Int) ≤ c4 := by omega
        simp [h0, h1, h2, h3, wrap64]
      · have h3 : (l.length : Int) ≤ c4 := by omega
        simp [h0, h1, h2, h3, wrap64]
theorem tk2 (k : Nat) (l : List S32) (has c0 c1 c2 c3 c4 c5 o0 o1 : Int) : term_kids.l0 (k + 2) l has 2 c0 c1 c2 c3 c4 c5 o0 o1 0 =
    if kidOk l has 2 c5 then term_kids.l0 (if 2 ≥ has then k + 1 else k) l has 3 c0 c1 c2 c3 c4 c5 o0 o1 (wd l has 2 c5) else some (o0, o1, 0, false) := by
  by_cases h : 2 ≥ has
  · simp only [term_kids.l0, kidOk, wd, if_pos h]
    simp [wrap64]
  · simp only [term_kids.l0, term_kids.j1, kidOk, wd, if_neg h]
    by_cases h1 : c5 < 0
    · have h0 : ¬ 0 ≤ c5 := by omega
      simp [h1, h0]
    · have h0 : 0 ≤ c5 := by omega
      by_cases h2 : c5 < (l.length : Int)
      · have h3 : ¬ (l.length : Int) ≤ c5 := by omega
        simp [h0, h1, h2, h3, wrap64]
      · have h3 : (l.length : Int) ≤ c5 := by omega
        simp [h0, h1, h2, h3, wrap64]


theorem Ult.stepIf {α : Type} {g : Nat → Option α} (f : Nat → Option α) {r : α} (p : Prop) [Decidable p] (c : Nat) (h : ∀ k, g (k + c) = f (if p then k + 1 else k)) (hf : Ult f r) : Ult g r := by
  refine Ult.step c h ?_
  by_cases hp : p
  · simp only [if_pos hp]; exact hf.later 1
  · simp only [if_neg hp]; exact hf

/-- May a node's kids be so? -/
def kidsOk (n : S32) (l : List S32) : Prop := kidOk l (kidsN n.f0) 0 n.f3.f0 ∧ kidOk l (kidsN n.f0) 1 n.f3.f1 ∧ kidOk l (kidsN n.f0) 2 n.f3.f2
instance (n : S32) (l : List S32) : Decidable (kidsOk n l) := by unfold kidsOk; infer_instance
def w0 (n : S32) (l : List S32) : Int := wd l (kidsN n.f0) 0 n.f3.f0
def w1 (n : S32) (l : List S32) : Int := wd l (kidsN n.f0) 1 n.f3.f1
def w2 (n : S32) (l : List S32) : Int := wd l (kidsN n.f0) 2 n.f3.f2

theorem kids_ok (n : S32) (l : List S32) (h : kidsOk n l) : Ult (fun k => term_kids.f k n.f0 n.f1 n.f2 n.f3.f0 n.f3.f1 n.f3.f2 l) (w0 n l, w1 n l, w2 n l, true) := by
  refine Ult.bind (kids_term n.f0) ?_
  refine Ult.stepIf (fun k => term_kids.l0 k l (kidsN n.f0) 1 n.f0 n.f1 n.f2 n.f3.f0 n.f3.f1 n.f3.f2 (w0 n l) 0 0) (0 ≥ kidsN n.f0) 2 (fun k => (tk0 k _ _ _ _ _ _ _ _ _ _).trans (if_pos h.1)) ?_
  refine Ult.stepIf (fun k => term_kids.l0 k l (kidsN n.f0) 2 n.f0 n.f1 n.f2 n.f3.f0 n.f3.f1 n.f3.f2 (w0 n l) (w1 n l) 0) (1 ≥ kidsN n.f0) 2 (fun k => (tk1 k _ _ _ _ _ _ _ _ _ _).trans (if_pos h.2.1)) ?_
  refine Ult.stepIf (fun k => term_kids.l0 k l (kidsN n.f0) 3 n.f0 n.f1 n.f2 n.f3.f0 n.f3.f1 n.f3.f2 (w0 n l) (w1 n l) (w2 n l)) (2 ≥ kidsN n.f0) 2 (fun k => (tk2 k _ _ _ _ _ _ _ _ _ _).trans (if_pos h.2.2)) ?_
  exact ⟨1, fun k hk => by obtain ⟨k, rfl⟩ : ∃ m, k = m + 1 := ⟨k - 1, by omega⟩; simp [term_kids.l0]⟩
theorem kids_bad (n : S32) (l : List S32) (h : ¬ kidsOk n l) : ∃ x y z, Ult (fun k => term_kids.f k n.f0 n.f1 n.f2 n.f3.f0 n.f3.f1 n.f3.f2 l) (x, y, z, false) := by
  by_cases h0 : kidOk l (kidsN n.f0) 0 n.f3.f0
  · by_cases h1 : kidOk l (kidsN n.f0) 1 n.f3.f1
    · have h2 : ¬ kidOk l (kidsN n.f0) 2 n.f3.f2 := fun h2 => h ⟨h0, h1, h2⟩
      refine ⟨w0 n l, w1 n l, 0, Ult.bind (kids_term n.f0) ?_⟩
      refine Ult.stepIf (fun k => term_kids.l0 k l (kidsN n.f0) 1 n.f0 n.f1 n.f2 n.f3.f0 n.f3.f1 n.f3.f2 (w0 n l) 0 0) (0 ≥ kidsN n.f0) 2 (fun k => (tk0 k _ _ _ _ _ _ _ _ _ _).trans (if_pos h0)) ?_
      refine Ult.stepIf (fun k => term_kids.l0 k l (kidsN n.f0) 2 n.f0 n.f1 n.f2 n.f3.f0 n.f3.f1 n.f3.f2 (w0 n l) (w1 n l) 0) (1 ≥ kidsN n.f0) 2 (fun k => (tk1 k _ _ _ _ _ _ _ _ _ _).trans (if_pos h1)) ?_
      exact Ult.step 2 (fun k => (tk2 k _ _ _ _ _ _ _ _ _ _).trans (if_neg h2)) (Ult.now _)
    · refine ⟨w0 n l, 0, 0, Ult.bind (kids_term n.f0) ?_⟩
      refine Ult.stepIf (fun k => term_kids.l0 k l (kidsN n.f0) 1 n.f0 n.f1 n.f2 n.f3.f0 n.f3.f1 n.f3.f2 (w0 n l) 0 0) (0 ≥ kidsN n.f0) 2 (fun k => (tk0 k _ _ _ _ _ _ _ _ _ _).trans (if_pos h0)) ?_
      exact Ult.step 2 (fun k => (tk1 k _ _ _ _ _ _ _ _ _ _).trans (if_neg h1)) (Ult.now _)
  · refine ⟨0, 0, 0, Ult.bind (kids_term n.f0) ?_⟩
    exact Ult.step 2 (fun k => (tk0 k _ _ _ _ _ _ _ _ _ _).trans (if_neg h0)) (Ult.now _)

/-- May a node have its width, by its kids'? -/
def wideB (op W a b c : Int) : Bool :=
  if op = 0 then W == 1 || W == 8 || W == 64 else if op = 1 then W == 8 else if op = 2 then W == 64 else if op = 3 ∨ op = 4 then W == 0
  else if op = 5 then a != 0 && W == a else if op = 6 then W == 64 && (a == 1 || a == 8) else if op = 7 then W == 8 && a == 64
  else if op = 19 ∨ op = 20 ∨ op = 21 then W == 1 && a != 0 && a == b
  else if op = 22 then a == 1 && b != 0 && b == c && W == b else if op = 23 then W == 8 && a == 0 && b == 64
  else if op = 24 then W == 0 && a == 0 && b == 64 && c == 8 else a != 0 && a == b && W == a
theorem wide_eq (op W N c0 c1 c2 a b c : Int) (h0 : 0 ≤ op) (h1 : op ≤ 24) : Ult (fun k => term_wide.f k op W N c0 c1 c2 a b c) (wideB op W a b c) := by
  obtain ⟨K, hK⟩ := kids_term op
  refine ⟨K + 1, fun k hk => ?_⟩
  obtain ⟨k, rfl⟩ : ∃ m, k = m + 1 := ⟨k - 1, by omega⟩
  have hk' := hK k (by omega)
  simp only at hk'
  simp only [term_wide.f, term_wide.j0, hk', Option.bind_some]
  have hop : op = 0 ∨ op = 1 ∨ op = 2 ∨ op = 3 ∨ op = 4 ∨ op = 5 ∨ op = 6 ∨ op = 7 ∨ (8 ≤ op ∧ op ≤ 18) ∨ op = 19 ∨ op = 20 ∨ op = 21 ∨ op = 22 ∨ op = 23 ∨ op = 24 := by omega
  rcases hop with rfl | rfl | rfl | rfl | rfl | rfl | rfl | rfl | ⟨h8, h18⟩ | rfl | rfl | rfl | rfl | rfl | rfl
  case inr.inr.inr.inr.inr.inr.inr.inr.inl =>
    have e : kidsN op = 2 := by unfold kidsN; rw [if_neg (by omega), if_neg (by omega), if_pos (by omega)]
    have n0 : ¬ op = 0 := by omega
    have n1 : ¬ op = 1 := by omega
    have n2 : ¬ op = 2 := by omega
    have n3 : ¬ op = 3 := by omega
    have n4 : ¬ op = 4 := by omega
    have n5 : ¬ op = 5 := by omega
    have n6 : ¬ op = 6 := by omega
    have n7 : ¬ op = 7 := by omega
    have n19 : ¬ op = 19 := by omega
    have n20 : ¬ op = 20 := by omega
    have n21 : ¬ op = 21 := by omega
    have n22 : ¬ op = 22 := by omega
    have n23 : ¬ op = 23 := by omega
    have n24 : ¬ op = 24 := by omega
    simp only [wideB, e, n0, n1, n2, n3, n4, n5, n6, n7, n19, n20, n21, n22, n23, n24]
    by_cases ha : a = 0
    · simp [ha, n21]
    · by_cases hb : a = b
      · subst hb; simp [ha, n21]
      · simp [ha, hb, n21]
  all_goals
    simp [wideB, kidsN, term_leaf.f]
    try (repeat' split) <;> simp_all
    try (intro h; omega)

/-- The greatest number that a node may have. -/
def mostN (op W : Int) : Int := if op = 0 then (if W = 1 then 1 else if W = 8 then 255 else 18446744073709551615) else if op = 1 then 15 else if op = 2 then 7 else 0
theorem most_eq (op W N c0 c1 c2 : Int) : backreachref06_most.f op W N c0 c1 c2 = some (mostN op W) := by
  unfold backreachref06_most.f mostN
  repeat' split
  all_goals rfl
theorem number_eq (op W N c0 c1 c2 : Int) (hw : op = 0 → W = 1 ∨ W = 8 ∨ W = 64) (h0 : 0 ≤ N) (h1 : N ≤ 18446744073709551615) : term_number.f op W N c0 c1 c2 = some (decide (N ≤ mostN op W)) := by
  unfold term_number.f mostN
  by_cases e0 : op = 0
  · rw [if_pos e0, if_pos e0]
    rcases hw e0 with rfl | rfl | rfl
    · rw [if_neg (by decide), if_pos (by decide), if_pos rfl]
      congr 1
      rw [Bool.eq_iff_iff, beq_iff_eq, decide_eq_true_eq]
      unfold shr
      simp [IntKind.bits]
      omega
    · rw [if_neg (by decide), if_pos (by decide), if_neg (by decide), if_pos rfl]
      congr 1
      rw [Bool.eq_iff_iff, beq_iff_eq, decide_eq_true_eq]
      unfold shr
      simp [IntKind.bits]
      omega
    · rw [if_pos rfl, if_neg (by decide), if_neg (by decide)]
      congr 1
      symm
      rw [decide_eq_true_eq]
      exact h1
  · rw [if_neg e0, if_neg e0]
    by_cases e1 : op = 1
    · rw [if_pos e1, if_pos e1]; congr 1; rw [decide_eq_decide]; omega
    · rw [if_neg e1, if_neg e1]
      by_cases e2 : op = 2
      · rw [if_pos e2, if_pos e2]; congr 1; rw [decide_eq_decide]; omega
      · rw [if_neg e2, if_neg e2]; congr 1; rw [Bool.eq_iff_iff, beq_iff_eq, decide_eq_true_eq]; omega

/-- A node's error, behind a list. -/
def rightN (n : S32) (l : List S32) : Int :=
  if n.f0 < 0 ∨ n.f0 > 24 then 4 else if ¬ kidsOk n l then 9 else if wideB n.f0 n.f1 (w0 n l) (w1 n l) (w2 n l) = false then 8 else if n.f2 ≤ mostN n.f0 n.f1 then 0 else 3

theorem wide_leaf {op W a b c : Int} (h : wideB op W a b c = true) (e : op = 0) : W = 1 ∨ W = 8 ∨ W = 64 := by
  subst e
  simp [wideB] at h
  omega

theorem right_term (n : S32) (l : List S32) (h0 : 0 ≤ n.f2) (h1 : n.f2 ≤ 18446744073709551615) : Ult (fun k => term_right.f k n.f0 n.f1 n.f2 n.f3.f0 n.f3.f1 n.f3.f2 l) (rightN n l) := by
  unfold rightN
  by_cases ho : n.f0 < 0 ∨ n.f0 > 24
  · rw [if_pos ho]
    refine ⟨1, fun k hk => ?_⟩
    obtain ⟨k, rfl⟩ : ∃ m, k = m + 1 := ⟨k - 1, by omega⟩
    simp only [term_right.f, term_right.j0]
    by_cases hn : n.f0 < 0
    · simp [hn]
    · have : n.f0 > 24 := by omega
      simp [hn, this]
  · rw [if_neg ho]
    have g0 : ¬ n.f0 < 0 := by omega
    have g1 : ¬ n.f0 > 24 := by omega
    refine Ult.step (f := fun k => (term_kids.f k n.f0 n.f1 n.f2 n.f3.f0 n.f3.f1 n.f3.f2 l).bind fun bt115 => (if bt115.2.2.2 = true then ((term_wide.f k n.f0 n.f1 n.f2 n.f3.f0 n.f3.f1 n.f3.f2 bt115.1 bt115.2.1 bt115.2.2.1).bind fun t120 => (if t120 = true then ((term_number.f n.f0 n.f1 n.f2 n.f3.f0 n.f3.f1 n.f3.f2).bind fun t121 => (if t121 = true then (some 0) else (some 3))) else (some 8))) else (some 9))) 1 (fun k => ?_) ?_
    · simp only [term_right.f, term_right.j0]
      rw [if_neg g0]
      rw [if_neg (by simpa using g1)]
    · by_cases hk : kidsOk n l
      · rw [if_neg (fun h => h hk)]
        refine Ult.bind (kids_ok n l hk) ?_
        simp only [if_true]
        refine Ult.bind (wide_eq n.f0 n.f1 n.f2 _ _ _ _ _ _ (by omega) (by omega)) ?_
        cases hw : wideB n.f0 n.f1 (w0 n l) (w1 n l) (w2 n l)
        · simp only [if_true, Bool.false_eq_true, if_false]; exact Ult.now _
        · simp only [if_true, Bool.true_eq_false, if_false]
          rw [number_eq n.f0 n.f1 n.f2 _ _ _ (wide_leaf hw) h0 h1]
          simp only [Option.bind_some, decide_eq_true_eq]
          by_cases hm : n.f2 ≤ mostN n.f0 n.f1
          · simp only [if_pos hm]; exact Ult.now _
          · simp only [if_neg hm]; exact Ult.now _
      · rw [if_pos hk]
        obtain ⟨x, y, z, hb⟩ := kids_bad n l hk
        refine Ult.bind hb ?_
        simp only [Bool.false_eq_true, if_false]
        exact Ult.now _

theorem rr0 (n : S32) (l : List S32) (r : Int) (hg : kidOk l (kidsN n.f0) 0 n.f3.f0 → Ult (fun k => backreachref06_Right.l0 k l 1 n.f0 n.f1 n.f2 n.f3.f0 n.f3.f1 n.f3.f2 (wd l (kidsN n.f0) 0 n.f3.f0) 0 0) r) (hb : ¬ kidOk l (kidsN n.f0) 0 n.f3.f0 → r = 9) :
    Ult (fun k => backreachref06_Right.l0 k l 0 n.f0 n.f1 n.f2 n.f3.f0 n.f3.f1 n.f3.f2 0 0 0) r := by
  refine Ult.step (f := fun k => (backreachref06_Kids.f k n.f0).bind fun t134 => (if (0 : Int) ≥ t134 then (if n.f3.f0 = 0 then backreachref06_Right.l0 k l 1 n.f0 n.f1 n.f2 n.f3.f0 n.f3.f1 n.f3.f2 0 0 0 else some 9) else (if n.f3.f0 < 0 then backreachref06_Right.j2 k l 0 true n.f0 n.f1 n.f2 n.f3.f0 n.f3.f1 n.f3.f2 0 0 0 else backreachref06_Right.j2 k l 0 (decide (n.f3.f0 ≥ (l.length : Int))) n.f0 n.f1 n.f2 n.f3.f0 n.f3.f1 n.f3.f2 0 0 0))) 1 (fun k => by simp [backreachref06_Right.l0, wrap64]) ?_
  refine Ult.bind (kids_ref n.f0) ?_
  by_cases hp : (0 : Int) ≥ kidsN n.f0
  · simp only [if_pos hp]
    by_cases hc : n.f3.f0 = 0
    · simp only [if_pos hc]
      have h := hg (by unfold kidOk; rw [if_pos hp]; exact hc)
      unfold wd at h
      rw [if_pos hp] at h
      exact h
    · simp only [if_neg hc]
      rw [hb (by unfold kidOk; rw [if_pos hp]; exact hc)]
      exact Ult.now _
  · simp only [if_neg hp]
    by_cases hn : n.f3.f0 < 0
    · simp only [if_pos hn]
      rw [hb (by unfold kidOk; rw [if_neg hp]; omega)]
      exact ⟨1, fun k hk => by obtain ⟨k, rfl⟩ : ∃ m, k = m + 1 := ⟨k - 1, by omega⟩; simp [backreachref06_Right.j2]⟩
    · simp only [if_neg hn]
      by_cases hs : n.f3.f0 < (l.length : Int)
      · have h := hg (by unfold kidOk; rw [if_neg hp]; omega)
        unfold wd at h
        rw [if_neg hp] at h
        have hs' : ¬ (l.length : Int) ≤ n.f3.f0 := by omega
        have hn' : 0 ≤ n.f3.f0 := by omega
        exact Ult.step 1 (fun k => by simp [backreachref06_Right.j2, hs, hs', hn', wrap64]) h
      · rw [hb (by unfold kidOk; rw [if_neg hp]; omega)]
        have hs' : (l.length : Int) ≤ n.f3.f0 := by omega
        exact ⟨1, fun k hk => by obtain ⟨k, rfl⟩ : ∃ m, k = m + 1 := ⟨k - 1, by omega⟩; simp [backreachref06_Right.j2, hs']⟩
theorem rr1 (n : S32) (l : List S32) (o0 : Int) (r : Int) (hg : kidOk l (kidsN n.f0) 1 n.f3.f1 → Ult (fun k => backreachref06_Right.l0 k l 2 n.f0 n.f1 n.f2 n.f3.f0 n.f3.f1 n.f3.f2 o0 (wd l (kidsN n.f0) 1 n.f3.f1) 0) r) (hb : ¬ kidOk l (kidsN n.f0) 1 n.f3.f1 → r = 9) :
    Ult (fun k => backreachref06_Right.l0 k l 1 n.f0 n.f1 n.f2 n.f3.f0 n.f3.f1 n.f3.f2 o0 0 0) r := by
  refine Ult.step (f := fun k => (backreachref06_Kids.f k n.f0).bind fun t134 => (if (1 : Int) ≥ t134 then (if n.f3.f1 = 0 then backreachref06_Right.l0 k l 2 n.f0 n.f1 n.f2 n.f3.f0 n.f3.f1 n.f3.f2 o0 0 0 else some 9) else (if n.f3.f1 < 0 then backreachref06_Right.j2 k l 1 true n.f0 n.f1 n.f2 n.f3.f0 n.f3.f1 n.f3.f2 o0 0 0 else backreachref06_Right.j2 k l 1 (decide (n.f3.f1 ≥ (l.length : Int))) n.f0 n.f1 n.f2 n.f3.f0 n.f3.f1 n.f3.f2 o0 0 0))) 1 (fun k => by simp [backreachref06_Right.l0, wrap64]) ?_
  refine Ult.bind (kids_ref n.f0) ?_
  by_cases hp : (1 : Int) ≥ kidsN n.f0
  · simp only [if_pos hp]
    by_cases hc : n.f3.f1 = 0
    · simp only [if_pos hc]
      have h := hg (by unfold kidOk; rw [if_pos hp]; exact hc)
      unfold wd at h
      rw [if_pos hp] at h
      exact h
    · simp only [if_neg hc]
      rw [hb (by unfold kidOk; rw [if_pos hp]; exact hc)]
      exact Ult.now _
  · simp only [if_neg hp]
    by_cases hn : n.f3.f1 < 0
    · simp only [if_pos hn]
      rw [hb (by unfold kidOk; rw [if_neg hp]; omega)]
      exact ⟨1, fun k hk => by obtain ⟨k, rfl⟩ : ∃ m, k = m + 1 := ⟨k - 1, by omega⟩; simp [backreachref06_Right.j2]⟩
    · simp only [if_neg hn]
      by_cases hs : n.f3.f1 < (l.length : Int)
      · have h := hg (by unfold kidOk; rw [if_neg hp]; omega)
        unfold wd at h
        rw [if_neg hp] at h
        have hs' : ¬ (l.length : Int) ≤ n.f3.f1 := by omega
        have hn' : 0 ≤ n.f3.f1 := by omega
        exact Ult.step 1 (fun k => by simp [backreachref06_Right.j2, hs, hs', hn', wrap64]) h
      · rw [hb (by unfold kidOk; rw [if_neg hp]; omega)]
        have hs' : (l.length : Int) ≤ n.f3.f1 := by omega
        exact ⟨1, fun k hk => by obtain ⟨k, rfl⟩ : ∃ m, k = m + 1 := ⟨k - 1, by omega⟩; simp [backreachref06_Right.j2, hs']⟩
theorem rr2 (n : S32) (l : List S32) (o0 o1 : Int) (r : Int) (hg : kidOk l (kidsN n.f0) 2 n.f3.f2 → Ult (fun k => backreachref06_Right.l0 k l 3 n.f0 n.f1 n.f2 n.f3.f0 n.f3.f1 n.f3.f2 o0 o1 (wd l (kidsN n.f0) 2 n.f3.f2)) r) (hb : ¬ kidOk l (kidsN n.f0) 2 n.f3.f2 → r = 9) :
    Ult (fun k => backreachref06_Right.l0 k l 2 n.f0 n.f1 n.f2 n.f3.f0 n.f3.f1 n.f3.f2 o0 o1 0) r := by
  refine Ult.step (f := fun k => (backreachref06_Kids.f k n.f0).bind fun t134 => (if (2 : Int) ≥ t134 then (if n.f3.f2 = 0 then backreachref06_Right.l0 k l 3 n.f0 n.f1 n.f2 n.f3.f0 n.f3.f1 n.f3.f2 o0 o1 0 else some 9) else (if n.f3.f2 < 0 then backreachref06_Right.j2 k l 2 true n.f0 n.f1 n.f2 n.f3.f0 n.f3.f1 n.f3.f2 o0 o1 0 else backreachref06_Right.j2 k l 2 (decide (n.f3.f2 ≥ (l.length : Int))) n.f0 n.f1 n.f2 n.f3.f0 n.f3.f1 n.f3.f2 o0 o1 0))) 1 (fun k => by simp [backreachref06_Right.l0, wrap64]) ?_
  refine Ult.bind (kids_ref n.f0) ?_
  by_cases hp : (2 : Int) ≥ kidsN n.f0
  · simp only [if_pos hp]
    by_cases hc : n.f3.f2 = 0
    · simp only [if_pos hc]
      have h := hg (by unfold kidOk; rw [if_pos hp]; exact hc)
      unfold wd at h
      rw [if_pos hp] at h
      exact h
    · simp only [if_neg hc]
      rw [hb (by unfold kidOk; rw [if_pos hp]; exact hc)]
      exact Ult.now _
  · simp only [if_neg hp]
    by_cases hn : n.f3.f2 < 0
    · simp only [if_pos hn]
      rw [hb (by unfold kidOk; rw [if_neg hp]; omega)]
      exact ⟨1, fun k hk => by obtain ⟨k, rfl⟩ : ∃ m, k = m + 1 := ⟨k - 1, by omega⟩; simp [backreachref06_Right.j2]⟩
    · simp only [if_neg hn]
      by_cases hs : n.f3.f2 < (l.length : Int)
      · have h := hg (by unfold kidOk; rw [if_neg hp]; omega)
        unfold wd at h
        rw [if_neg hp] at h
        have hs' : ¬ (l.length : Int) ≤ n.f3.f2 := by omega
        have hn' : 0 ≤ n.f3.f2 := by omega
        exact Ult.step 1 (fun k => by simp [backreachref06_Right.j2, hs, hs', hn', wrap64]) h
      · rw [hb (by unfold kidOk; rw [if_neg hp]; omega)]
        have hs' : (l.length : Int) ≤ n.f3.f2 := by omega
        exact ⟨1, fun k hk => by obtain ⟨k, rfl⟩ : ∃ m, k = m + 1 := ⟨k - 1, by omega⟩; simp [backreachref06_Right.j2, hs']⟩

/-- The document's width. -/
theorem width_ref (op W N c0 c1 c2 a b c : Int) (h0 : 0 ≤ op) (h1 : op ≤ 24) (ha : 0 ≤ a) (hb : 0 ≤ b) :
    ∃ t, Ult (fun k => backreachref06_width.f k op W N c0 c1 c2 a b c) t ∧ ((t = W ∧ ¬ W < 0) ↔ wideB op W a b c = true) := by
  have hop : op = 0 ∨ op = 1 ∨ op = 2 ∨ op = 3 ∨ op = 4 ∨ op = 5 ∨ op = 6 ∨ op = 7 ∨ (8 ≤ op ∧ op ≤ 18) ∨ op = 19 ∨ op = 20 ∨ op = 21 ∨ op = 22 ∨ op = 23 ∨ op = 24 := by omega
  have ev : ∀ t, (∀ k, backreachref06_width.f (k + 4) op W N c0 c1 c2 a b c = some t) → Ult (fun k => backreachref06_width.f k op W N c0 c1 c2 a b c) t := fun t h => ⟨4, fun k hk => by obtain ⟨k, rfl⟩ : ∃ m, k = m + 4 := ⟨k - 4, by omega⟩; exact h k⟩
  rcases hop with rfl | rfl | rfl | rfl | rfl | rfl | rfl | rfl | ⟨h8, h18⟩ | rfl | rfl | rfl | rfl | rfl | rfl
  · refine ⟨if W = 1 ∨ W = 8 ∨ W = 64 then W else -1, ev _ (fun k => ?_), ?_⟩
    · simp only [backreachref06_width.f, backreachref06_width.j0]
      by_cases e1 : W = 1
      · simp [e1]
      · by_cases e2 : W = 8
        · simp [e2]
        · by_cases e3 : W = 64 <;> simp [e1, e2, e3]
    · simp only [wideB]
      by_cases e : W = 1 ∨ W = 8 ∨ W = 64
      · simp [e]; omega
      · simp [e]; omega
  · exact ⟨8, ev _ (fun k => by simp [backreachref06_width.f]), by simp [wideB]; omega⟩
  · exact ⟨64, ev _ (fun k => by simp [backreachref06_width.f]), by simp [wideB]; omega⟩
  · exact ⟨0, ev _ (fun k => by simp [backreachref06_width.f, backreachref06_width.j1]), by simp [wideB]; omega⟩
  · exact ⟨0, ev _ (fun k => by simp [backreachref06_width.f, backreachref06_width.j1]), by simp [wideB]; omega⟩
  · by_cases e : a = 0
    · exact ⟨-1, ev _ (fun k => by simp [backreachref06_width.f, backreachref06_width.j1, e]), by simp [wideB, e]; omega⟩
    · exact ⟨a, ev _ (fun k => by simp [backreachref06_width.f, backreachref06_width.j1, e]), by simp [wideB, e]; omega⟩
  · by_cases e : a = 1
    · exact ⟨64, ev _ (fun k => by simp [backreachref06_width.f, backreachref06_width.j1, e]), by simp [wideB, e]; omega⟩
    · by_cases e2 : a = 8
      · exact ⟨64, ev _ (fun k => by simp [backreachref06_width.f, backreachref06_width.j1, e2]), by simp [wideB, e2]; omega⟩
      · exact ⟨-1, ev _ (fun k => by simp [backreachref06_width.f, backreachref06_width.j1, e, e2]), by simp [wideB, e, e2]; omega⟩
  · by_cases e : a = 64
    · exact ⟨8, ev _ (fun k => by simp [backreachref06_width.f, backreachref06_width.j1, e]), by simp [wideB, e]; omega⟩
    · exact ⟨-1, ev _ (fun k => by simp [backreachref06_width.f, backreachref06_width.j1, e]), by simp [wideB, e]; omega⟩
  · have n0 : ¬ op = 0 := by omega
    have n1 : ¬ op = 1 := by omega
    have n2 : ¬ op = 2 := by omega
    have n3 : ¬ op = 3 := by omega
    have n4 : ¬ op = 4 := by omega
    have n5 : ¬ op = 5 := by omega
    have n6 : ¬ op = 6 := by omega
    have n7 : ¬ op = 7 := by omega
    have n19 : ¬ op = 19 := by omega
    have n20 : ¬ op = 20 := by omega
    have n21 : ¬ op = 21 := by omega
    have n22 : ¬ op = 22 := by omega
    have n23 : ¬ op = 23 := by omega
    have n24 : ¬ op = 24 := by omega
    by_cases e : a = 0
    · exact ⟨-1, ev _ (fun k => by simp [backreachref06_width.f, backreachref06_width.j1, backreachref06_width.j2, *]), by simp [wideB, *]; omega⟩
    · by_cases e2 : a = b
      · subst e2
        exact ⟨a, ev _ (fun k => by simp [backreachref06_width.f, backreachref06_width.j1, backreachref06_width.j2, *]), by simp [wideB, *]; omega⟩
      · exact ⟨-1, ev _ (fun k => by simp [backreachref06_width.f, backreachref06_width.j1, backreachref06_width.j2, *]), by simp [wideB, *]; omega⟩
  iterate 3
    · by_cases e : a = 0
      · exact ⟨-1, ev _ (fun k => by simp [backreachref06_width.f, backreachref06_width.j1, backreachref06_width.j2, e]), by simp [wideB, e]; omega⟩
      · by_cases e2 : a = b
        · subst e2
          exact ⟨1, ev _ (fun k => by simp [backreachref06_width.f, backreachref06_width.j1, backreachref06_width.j2, e]), by simp [wideB, e]; omega⟩
        · exact ⟨-1, ev _ (fun k => by simp [backreachref06_width.f, backreachref06_width.j1, backreachref06_width.j2, e, e2]), by simp [wideB, e, e2]; omega⟩
  · by_cases e : a = 1
    · by_cases e1 : b = 0
      · exact ⟨-1, ev _ (fun k => by simp [backreachref06_width.f, backreachref06_width.j1, backreachref06_width.j2, backreachref06_width.j3, e, e1]), by simp [wideB, e, e1]; omega⟩
      · by_cases e2 : b = c
        · subst e2
          exact ⟨b, ev _ (fun k => by simp [backreachref06_width.f, backreachref06_width.j1, backreachref06_width.j2, backreachref06_width.j3, e, e1]), by simp [wideB, e, e1]; omega⟩
        · exact ⟨-1, ev _ (fun k => by simp [backreachref06_width.f, backreachref06_width.j1, backreachref06_width.j2, backreachref06_width.j3, e, e1, e2]), by simp [wideB, e, e1, e2]; omega⟩
    · exact ⟨-1, ev _ (fun k => by simp [backreachref06_width.f, backreachref06_width.j1, backreachref06_width.j2, backreachref06_width.j3, e]), by simp [wideB, e]; omega⟩
  · by_cases e : a = 0
    · by_cases e1 : b = 64
      · exact ⟨8, ev _ (fun k => by simp [backreachref06_width.f, backreachref06_width.j1, backreachref06_width.j2, e, e1]), by simp [wideB, e, e1]; omega⟩
      · exact ⟨-1, ev _ (fun k => by simp [backreachref06_width.f, backreachref06_width.j1, backreachref06_width.j2, e, e1]), by simp [wideB, e, e1]; omega⟩
    · exact ⟨-1, ev _ (fun k => by simp [backreachref06_width.f, backreachref06_width.j1, backreachref06_width.j2, e]), by simp [wideB, e]; omega⟩
  · by_cases e : a = 0
    · by_cases e1 : b = 64
      · by_cases e2 : c = 8
        · exact ⟨0, ev _ (fun k => by simp [backreachref06_width.f, backreachref06_width.j1, backreachref06_width.j2, backreachref06_width.j4, e, e1, e2]), by simp [wideB, e, e1, e2]; omega⟩
        · exact ⟨-1, ev _ (fun k => by simp [backreachref06_width.f, backreachref06_width.j1, backreachref06_width.j2, backreachref06_width.j4, e, e1, e2]), by simp [wideB, e, e1, e2]; omega⟩
      · exact ⟨-1, ev _ (fun k => by simp [backreachref06_width.f, backreachref06_width.j1, backreachref06_width.j2, backreachref06_width.j4, e, e1]), by simp [wideB, e, e1]; omega⟩
    · exact ⟨-1, ev _ (fun k => by simp [backreachref06_width.f, backreachref06_width.j1, backreachref06_width.j2, backreachref06_width.j4, e]), by simp [wideB, e]; omega⟩

theorem rd_mem (l : List S32) (c : Int) (h0 : 0 ≤ c) (h1 : c < l.length) : rd_T32 l c ∈ l := by
  unfold rd_T32
  have hc : c.toNat < l.length := by omega
  rw [List.getD_eq_getElem?_getD, List.getElem?_eq_getElem hc]
  exact List.getElem_mem hc
theorem wd_pos (l : List S32) (hl : ∀ a ∈ l, 0 ≤ a.f1) (has j c : Int) (h : kidOk l has j c) : 0 ≤ wd l has j c := by
  unfold wd
  unfold kidOk at h
  by_cases hp : j ≥ has
  · rw [if_pos hp]; exact Int.le_refl _
  · rw [if_neg hp] at h ⊢
    exact hl _ (rd_mem l c h.1 h.2)

theorem right_ref (n : S32) (l : List S32) (hl : ∀ a ∈ l, 0 ≤ a.f1) : Ult (fun k => backreachref06_Right.f k n.f0 n.f1 n.f2 n.f3.f0 n.f3.f1 n.f3.f2 l) (rightN n l) := by
  unfold rightN
  by_cases ho : n.f0 < 0 ∨ n.f0 > 24
  · rw [if_pos ho]
    refine ⟨1, fun k hk => ?_⟩
    obtain ⟨k, rfl⟩ : ∃ m, k = m + 1 := ⟨k - 1, by omega⟩
    simp only [backreachref06_Right.f, backreachref06_Right.j0]
    by_cases hn : n.f0 < 0
    · simp [hn]
    · have : n.f0 > 24 := by omega
      simp [hn, this]
  · rw [if_neg ho]
    have g0 : ¬ n.f0 < 0 := by omega
    have g1 : ¬ n.f0 > 24 := by omega
    refine Ult.step (f := fun k => backreachref06_Right.l0 k l 0 n.f0 n.f1 n.f2 n.f3.f0 n.f3.f1 n.f3.f2 0 0 0) 1 (fun k => ?_) ?_
    · simp only [backreachref06_Right.f, backreachref06_Right.j0]
      rw [if_neg g0]
      rw [if_neg (by simpa using g1)]
    · refine rr0 n l _ (fun h0 => ?_) (fun h0 => by rw [if_pos (fun h => h0 h.1)])
      refine rr1 n l _ _ (fun h1 => ?_) (fun h1 => by rw [if_pos (fun h => h1 h.2.1)])
      refine rr2 n l _ _ _ (fun h2 => ?_) (fun h2 => by rw [if_pos (fun h => h2 h.2.2)])
      have hk : kidsOk n l := ⟨h0, h1, h2⟩
      rw [if_neg (fun h => h hk)]
      obtain ⟨t, ht, hw⟩ := width_ref n.f0 n.f1 n.f2 n.f3.f0 n.f3.f1 n.f3.f2 (w0 n l) (w1 n l) (w2 n l) (by omega) (by omega) (wd_pos l hl _ _ _ h0) (wd_pos l hl _ _ _ h1)
      refine Ult.step (f := fun k => (backreachref06_width.f k n.f0 n.f1 n.f2 n.f3.f0 n.f3.f1 n.f3.f2 (w0 n l) (w1 n l) (w2 n l)).bind fun t138 => (if t138 = n.f1 then (backreachref06_Right.j3 k (decide (n.f1 < 0)) n.f0 n.f1 n.f2 n.f3.f0 n.f3.f1 n.f3.f2) else (backreachref06_Right.j3 k true n.f0 n.f1 n.f2 n.f3.f0 n.f3.f1 n.f3.f2))) 1 (fun k => by simp only [backreachref06_Right.l0]; rfl) ?_
      refine Ult.bind ht ?_
      have bad : Ult (fun k => backreachref06_Right.j3 k true n.f0 n.f1 n.f2 n.f3.f0 n.f3.f1 n.f3.f2) 8 := ⟨1, fun k hk => by obtain ⟨k, rfl⟩ : ∃ m, k = m + 1 := ⟨k - 1, by omega⟩; simp [backreachref06_Right.j3]⟩
      by_cases e : t = n.f1
      · simp only [if_pos e]
        by_cases hn : n.f1 < 0
        · have hb : wideB n.f0 n.f1 (w0 n l) (w1 n l) (w2 n l) = false := by
            cases h : wideB n.f0 n.f1 (w0 n l) (w1 n l) (w2 n l)
            · rfl
            · exact absurd hn (hw.2 h).2
          rw [if_pos hb, decide_eq_true hn]
          exact bad
        · have hb : ¬ wideB n.f0 n.f1 (w0 n l) (w1 n l) (w2 n l) = false := by rw [hw.1 ⟨e, hn⟩]; decide
          rw [if_neg hb, decide_eq_false hn]
          refine ⟨1, fun k hk => ?_⟩
          obtain ⟨k, rfl⟩ : ∃ m, k = m + 1 := ⟨k - 1, by omega⟩
          simp only [backreachref06_Right.j3, most_eq, Option.bind_some]
          by_cases hm : n.f2 ≤ mostN n.f0 n.f1
          · rw [if_pos hm, if_neg (by decide), if_neg (by omega)]
          · rw [if_neg hm, if_neg (by decide), if_pos (by omega)]
      · simp only [if_neg e]
        have hb : wideB n.f0 n.f1 (w0 n l) (w1 n l) (w2 n l) = false := by
          cases h : wideB n.f0 n.f1 (w0 n l) (w1 n l) (w2 n l)
          · rfl
          · exact absurd (hw.2 h).1 e
        rw [if_pos hb]
        exact bad

/-- What is right has a width. -/
theorem right_wide (n : S32) (l : List S32) (hl : ∀ a ∈ l, 0 ≤ a.f1) (h : rightN n l = 0) : 0 ≤ n.f1 := by
  unfold rightN at h
  by_cases ho : n.f0 < 0 ∨ n.f0 > 24
  · rw [if_pos ho] at h; omega
  · rw [if_neg ho] at h
    by_cases hk : kidsOk n l
    · rw [if_neg (fun h => h hk)] at h
      cases hw : wideB n.f0 n.f1 (w0 n l) (w1 n l) (w2 n l)
      · rw [if_pos hw] at h; omega
      · obtain ⟨t, ht, hw'⟩ := width_ref n.f0 n.f1 n.f2 n.f3.f0 n.f3.f1 n.f3.f2 (w0 n l) (w1 n l) (w2 n l) (by omega) (by omega) (wd_pos l hl _ _ _ hk.1) (wd_pos l hl _ _ _ hk.2.1)
        have := (hw'.2 hw).2
        omega
    · rw [if_pos hk] at h; omega

/-- The first fault of a list, from place i on. -/
def chk (l : List S32) : Nat → Nat → Int × Int
  | 0, _ => (0, 0)
  | d + 1, i => if i = 65536 then (10, (i : Int)) else if rightN (rd_T32 l i) (l.take i) = 0 then chk l d (i + 1) else (rightN (rd_T32 l i) (l.take i), (i : Int))
def checkN (l : List S32) : Int × Int := if l.length = 0 then (11, 0) else chk l l.length 0

/-- The numbers of a list's nodes are so. -/
def Fine (l : List S32) : Prop := ∀ a ∈ l, 0 ≤ a.f2 ∧ a.f2 ≤ 18446744073709551615

theorem check_from (l : List S32) (hf : Fine l) (hs : l.length < 4611686018427387904) (d : Nat) : ∀ i : Nat, i + d = l.length → Ult (fun k => term_Check.l0 k l l (l.length : Int) (i : Int)) (chk l d i) := by
  induction d with
  | zero =>
    intro i hi
    exact ⟨1, fun k hk => by obtain ⟨k, rfl⟩ : ∃ m, k = m + 1 := ⟨k - 1, by omega⟩; simp only [term_Check.l0]; rw [if_neg (by omega)]; rfl⟩
  | succ d ih =>
    intro i hi
    have hm := hf _ (rd_mem l i (by omega) (by omega))
    simp only [chk]
    by_cases h6 : i = 65536
    · rw [if_pos h6]
      exact ⟨1, fun k hk => by obtain ⟨k, rfl⟩ : ∃ m, k = m + 1 := ⟨k - 1, by omega⟩; simp only [term_Check.l0]; rw [if_pos (by omega), if_pos (by omega), if_pos (by omega), if_pos (by omega)]⟩
    · rw [if_neg h6]
      refine Ult.step (f := fun k => (term_right.f k ((rd_T32 l i).f0) ((rd_T32 l i).f1) ((rd_T32 l i).f2) ((rd_T32 l i).f3.f0) ((rd_T32 l i).f3.f1) ((rd_T32 l i).f3.f2) (l.take i)).bind fun t196 => (if t196 = 0 then (term_Check.l0 k l l (l.length : Int) ((i + 1 : Nat) : Int)) else (some (t196, (i : Int))))) 1 (fun k => ?_) ?_
      · simp only [term_Check.l0]
        rw [if_pos (by omega), if_pos (by omega), if_pos (by omega), if_neg (by omega), if_pos (by omega)]
        have hw : wrap64 ((i : Int) + 1) = ((i + 1 : Nat) : Int) := by unfold wrap64; omega
        rw [hw, Int.toNat_natCast]
      · refine Ult.bind (right_term _ _ hm.1 hm.2) ?_
        by_cases hr : rightN (rd_T32 l i) (l.take i) = 0
        · simp only [if_pos hr]
          exact ih (i + 1) (by omega)
        · simp only [if_neg hr]
          exact Ult.now _
theorem check_term (l : List S32) (hf : Fine l) (hs : l.length < 4611686018427387904) : Ult (fun k => term_Check.f k l) (checkN l) := by
  unfold checkN
  simp only [term_Check.f]
  by_cases h : l.length = 0
  · rw [if_pos h]; simp only [if_pos (show (l.length : Int) = 0 by omega)]; exact Ult.now _
  · rw [if_neg h]; simp only [if_neg (show ¬ (l.length : Int) = 0 by omega)]; exact check_from l hf hs l.length 0 (by omega)

theorem take_next (l : List S32) (i : Nat) (h : i < l.length) (a : S32) (ha : a ∈ l.take (i + 1)) : a ∈ l.take i ∨ a = rd_T32 l i := by
  rw [List.take_add_one, List.getElem?_eq_getElem h] at ha
  rcases List.mem_append.1 ha with ha | ha
  · exact .inl ha
  · right
    have : a = l[i] := by simpa using ha
    rw [this]
    unfold rd_T32
    rw [Int.toNat_natCast, List.getD_eq_getElem?_getD, List.getElem?_eq_getElem h]
    rfl
theorem check_fromR (l : List S32) (hs : l.length < 4611686018427387904) (d : Nat) : ∀ i : Nat, i + d = l.length → (∀ a ∈ l.take i, 0 ≤ a.f1) → Ult (fun k => backreachref06_Check.l0 k l (i : Int)) (chk l d i) := by
  induction d with
  | zero =>
    intro i hi _
    exact ⟨1, fun k hk => by obtain ⟨k, rfl⟩ : ∃ m, k = m + 1 := ⟨k - 1, by omega⟩; simp only [backreachref06_Check.l0]; rw [if_neg (by omega)]; rfl⟩
  | succ d ih =>
    intro i hi hl
    simp only [chk]
    by_cases h6 : i = 65536
    · rw [if_pos h6]
      exact ⟨1, fun k hk => by obtain ⟨k, rfl⟩ : ∃ m, k = m + 1 := ⟨k - 1, by omega⟩; simp only [backreachref06_Check.l0]; rw [if_pos (by omega), if_pos (by omega)]⟩
    · rw [if_neg h6]
      refine Ult.step (f := fun k => (backreachref06_Right.f k ((rd_T32 l i).f0) ((rd_T32 l i).f1) ((rd_T32 l i).f2) ((rd_T32 l i).f3.f0) ((rd_T32 l i).f3.f1) ((rd_T32 l i).f3.f2) (l.take i)).bind fun t202 => (if t202 = 0 then (backreachref06_Check.l0 k l ((i + 1 : Nat) : Int)) else (some (t202, (i : Int))))) 1 (fun k => ?_) ?_
      · simp only [backreachref06_Check.l0]
        rw [if_pos (by omega), if_neg (by omega), if_pos (by omega), if_pos (by omega)]
        have hw : wrap64 ((i : Int) + 1) = ((i + 1 : Nat) : Int) := by unfold wrap64; omega
        rw [hw, Int.toNat_natCast]
      · refine Ult.bind (right_ref _ _ hl) ?_
        by_cases hr : rightN (rd_T32 l i) (l.take i) = 0
        · simp only [if_pos hr]
          refine ih (i + 1) (by omega) (fun a ha => ?_)
          rcases take_next l i (by omega) a ha with h | h
          · exact hl a h
          · rw [h]; exact right_wide _ _ hl hr
        · simp only [if_neg hr]
          exact Ult.now _
theorem check_ref (l : List S32) (hs : l.length < 4611686018427387904) : Ult (fun k => backreachref06_Check.f k l) (checkN l) := by
  unfold checkN
  simp only [backreachref06_Check.f]
  by_cases h : l.length = 0
  · rw [if_pos h]; simp only [if_pos (show (l.length : Int) = 0 by omega)]; exact Ult.now _
  · rw [if_neg h]; simp only [if_neg (show ¬ (l.length : Int) = 0 by omega)]; exact check_fromR l hs l.length 0 (by omega) (by simp)

end Go.Proofs.Ytkindfbbklkjdaa.Pure
