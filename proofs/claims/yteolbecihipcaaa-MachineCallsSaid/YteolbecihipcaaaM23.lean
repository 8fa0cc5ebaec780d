/- MachineCalls: what is open in a run of a right image. -/
import Derived.Test.YteolbecihipcaaaM22
import Derived.Test.YteolbecihipcaaaM12
open Go Go.Proofs Go.RowKit
namespace Go.Proofs.Yteolbecihipcaaa.Sx.M5
set_option linter.unusedVariables false
set_option linter.unusedSimpArgs false
/-- f is the last of l's numbers that is at most x; -1: none is. -/
def IsFun (l : List Int) (x f : Int) : Prop := (f = -1 ∧ ∀ j : Nat, j < l.length → x < l.getD j 0) ∨ (0 ≤ f ∧ f < l.length ∧ l.getD f.toNat 0 ≤ x ∧ ∀ j : Nat, f < j → j < l.length → x < l.getD j 0)
theorem IsFun.uniq {l : List Int} {x f g : Int} (h : IsFun l x f) (k : IsFun l x g) : f = g := by
  rcases h with ⟨h1, h2⟩ | ⟨h1, h2, h3, h4⟩
  · rcases k with ⟨k1, k2⟩ | ⟨k1, k2, k3, k4⟩
    · omega
    · have := h2 g.toNat (by omega); omega
  · rcases k with ⟨k1, k2⟩ | ⟨k1, k2, k3, k4⟩
    · have := k2 f.toNat (by omega); omega
    · by_cases c1 : f < g
      · have := h4 g.toNat (by omega) (by omega); omega
      · by_cases c2 : g < f
        · have := k4 f.toNat (by omega) (by omega); omega
        · omega
theorem fun_l0_is {p : Img} {x : Int} : ∀ (m : Nat) (n : Int), -1 ≤ n → n < p.funs.length → (∀ j : Nat, n < j → j < p.funs.length → x < p.funs.getD j 0) → (n + 1).toNat < m → IsFun p.funs x (fun_l0 p x m n) := by
  intro m
  induction m with
  | zero => intros; rename_i hm; exact absurd hm (Nat.not_lt_zero _)
  | succ m ih =>
    intro n h1 h2 h3 hm
    rw [fun_l0]
    by_cases hn : n ≥ 0
    · rw [decide_eq_true hn]
      simp only [cond_true]
      by_cases hx : p.funs.getD n.toNat 0 > x
      · rw [decide_eq_true hx]
        refine ih (n - 1) (by omega) (by omega) (fun j hj hl => ?_) (by omega)
        by_cases e : (j : Int) = n
        · have : j = n.toNat := by omega
          subst this; exact hx
        · exact h3 j (by omega) hl
      · rw [decide_eq_false hx]
        exact .inr ⟨hn, h2, by show p.funs.getD n.toNat 0 ≤ x; omega, h3⟩
    · rw [decide_eq_false hn]
      exact .inl ⟨by show n = -1; omega, fun j hl => h3 j (by omega) hl⟩
theorem fun_is {p : Img} {x : Int} (h0 : 0 ≤ x) (h1 : x < p.code.length) : IsFun p.funs x (fun_s p x) := by
  unfold fun_s
  rw [decide_eq_false (by omega), decide_eq_false (by omega)]
  exact fun_l0_is _ _ (by omega) (by omega) (fun j h2 h3 => by omega) (Nat.lt_succ_self _)
theorem Inc.lt {l : List Int} (h : Inc l) : ∀ (d i : Nat), i + (d + 1) < l.length → l.getD i 0 < l.getD (i + (d + 1)) 0 := by
  intro d
  induction d with
  | zero => intro i hi; exact h i hi
  | succ d ih =>
    intro i hi
    have h1 := ih i (by omega)
    have h2 := h (i + (d + 1)) (by omega)
    rw [show i + (d + 1 + 1) = i + (d + 1) + 1 by omega]
    omega
theorem Inc.le {l : List Int} (h : Inc l) {i j : Nat} (hij : i ≤ j) (hj : j < l.length) : l.getD i 0 ≤ l.getD j 0 := by
  by_cases e : i = j
  · rw [e]; exact Int.le_refl _
  · have := h.lt (j - i - 1) i (by omega)
    rw [show i + (j - i - 1 + 1) = j by omega] at this
    omega
/-- What is so of an image whose counts are right. -/
structure Rt (p : Img) : Prop where
  small : 0 < p.funs.length
  first : p.funs.getD 0 0 = 0
  inc : Inc p.funs
  last : p.funs.getD (p.funs.length - 1) 0 < p.code.length
theorem ends_is {p : Img} (r : Rt p) {x : Int} (h0 : 0 ≤ x) (h1 : x < p.code.length) :
    0 ≤ (ends_s p (fun_s p x)).1 ∧ (ends_s p (fun_s p x)).1 ≤ x ∧ x < (ends_s p (fun_s p x)).2 ∧ (ends_s p (fun_s p x)).2 ≤ p.code.length ∧ ∀ y : Int, 0 ≤ y → y < p.code.length → (fun_s p y = fun_s p x ↔ (ends_s p (fun_s p x)).1 ≤ y ∧ y < (ends_s p (fun_s p x)).2) := by
  have F := fun_is h0 h1
  have rf := r.first
  rcases F with ⟨_, h2⟩ | ⟨f0, f1, f2, f3⟩
  · have := h2 0 r.small; omega
  obtain ⟨f, hf⟩ : ∃ f : Nat, fun_s p x = f := ⟨(fun_s p x).toNat, by omega⟩
  rw [hf] at f0 f1 f2 f3 ⊢
  rw [Int.toNat_natCast] at f2
  have lo0 : 0 ≤ p.funs.getD f 0 := by have := r.inc.le (Nat.zero_le f) (by omega); omega
  have key : ∀ y : Int, 0 ≤ y → y < p.code.length → (fun_s p y = f ↔ p.funs.getD f 0 ≤ y ∧ ∀ j : Nat, f < j → j < p.funs.length → y < p.funs.getD j 0) := by
    intro y y0 y1
    have Y := fun_is y0 y1
    constructor
    · intro e
      rw [e] at Y
      rcases Y with ⟨h, _⟩ | ⟨_, _, h3, h4⟩
      · omega
      · rw [Int.toNat_natCast] at h3
        exact ⟨h3, fun j hj hl => h4 j (by omega) hl⟩
    · rintro ⟨h3, h4⟩
      exact Y.uniq (.inr ⟨by omega, by omega, by rw [Int.toNat_natCast]; exact h3, fun j hj hl => h4 j (by omega) hl⟩)
  unfold ends_s
  by_cases c : (f : Int) + 1 < p.funs.length
  · rw [decide_eq_true c, Int.toNat_natCast, show ((f : Int) + 1).toNat = f + 1 by omega]
    simp only [cond_true]
    have hh := r.inc.le (show f + 1 ≤ p.funs.length - 1 by omega) (by omega)
    have hl := r.last
    refine ⟨lo0, f2, f3 (f + 1) (by omega) (by omega), by omega, fun y y0 y1 => ?_⟩
    rw [key y y0 y1]
    refine ⟨fun h => ⟨h.1, h.2 (f + 1) (by omega) (by omega)⟩, fun h => ⟨h.1, fun j hj hjl => ?_⟩⟩
    have := r.inc.le (show f + 1 ≤ j by omega) hjl
    omega
  · rw [decide_eq_false c, Int.toNat_natCast]
    simp only [cond_false]
    refine ⟨lo0, f2, h1, Int.le_refl _, fun y y0 y1 => ?_⟩
    rw [key y y0 y1]
    exact ⟨fun h => ⟨h.1, y1⟩, fun h => ⟨h.1, fun j hj hjl => by omega⟩⟩

theorem wrap_i64_id {x : Int} (h : -9223372036854775808 ≤ x ∧ x < 9223372036854775808) : IntKind.i64.wrap x = x := by rw [IntKind.wrap_i64]; omega
theorem enc_stray {p : Img} (h : (encode_s p).2 = 0) : stray_s p < 0 := by
  unfold encode_s at h
  cases hs : sizes_s p with
  | false => rw [hs] at h; exact absurd (show (3 : Int) = 0 from h) (by decide)
  | true =>
    rw [hs] at h
    exact (enc_l0_t p _ 0 _ h (Nat.lt_succ_self _)).2
theorem check_l0_t {p : Img} : ∀ (m : Nat) (i : Nat), check_l0 p m i = 0 → p.funs.length - i < m → (∀ j : Nat, i ≤ j → j < p.funs.length → (j = 0 → p.funs.getD 0 0 = 0) ∧ (0 < j → p.funs.getD (j - 1) 0 < p.funs.getD j 0)) ∧ p.funs.getD (p.funs.length - 1) 0 < p.code.length := by
  intro m
  induction m with
  | zero => intro i _ hm; exact absurd hm (Nat.not_lt_zero _)
  | succ m ih =>
    intro i h hm
    rw [check_l0] at h
    cases h1 : decide ((i : Int) < (p.funs.length : Int)) with
    | false =>
      have h1 := of_decide_eq_false h1
      rw [decide_eq_false h1] at h
      simp only [cond_false] at h
      cases h2 : decide ((p.code.length : Int) > (256 : Int)) with
      | true => rw [h2] at h; exact absurd (show (3 : Int) = 0 from h) (by decide)
      | false =>
        rw [h2] at h
        simp only [cond_false] at h
        cases h3 : decide ((p.funs.getD (((p.funs.length : Int) - 1).toNat) 0) ≥ (p.code.length : Int)) with
        | true => rw [h3] at h; exact absurd (show (3 : Int) = 0 from h) (by decide)
        | false =>
          have h3 := of_decide_eq_false h3
          rw [show ((p.funs.length : Int) - 1).toNat = p.funs.length - 1 by omega] at h3
          exact ⟨fun j h4 h5 => by omega, by omega⟩
    | true =>
      rw [h1] at h
      have h1 := of_decide_eq_true h1
      simp only [cond_true] at h
      by_cases hz : i = 0
      · subst hz
        have e0 : (((0 : Nat) : Int) == (0 : Int)) = true := rfl
        have e1 : decide (((0 : Nat) : Int) > (0 : Int)) = false := rfl
        rw [e0, e1] at h
        simp only [cond_true, cond_false, Int.toNat_natCast] at h
        cases h2 : (p.funs.getD 0 0 != (0 : Int)) with
        | true => rw [h2] at h; exact absurd (show (3 : Int) = 0 from h) (by decide)
        | false =>
          rw [h2] at h
          obtain ⟨q1, q2⟩ := ih 1 h (by omega)
          refine ⟨fun j h4 h5 => ⟨fun _ => by simpa using h2, fun h6 => (q1 j (by omega) h5).2 h6⟩, q2⟩
      · have e0 : ((i : Int) == (0 : Int)) = false := by simpa using hz
        have e1 : decide ((i : Int) > (0 : Int)) = true := decide_eq_true (by omega)
        rw [e0, e1] at h
        simp only [cond_true, cond_false, Int.toNat_natCast] at h
        rw [show ((i : Int) - 1).toNat = i - 1 by omega] at h
        cases h2 : decide (p.funs.getD i 0 ≤ p.funs.getD (i - 1) 0) with
        | true => rw [h2] at h; exact absurd (show (3 : Int) = 0 from h) (by decide)
        | false =>
          rw [h2] at h
          have h2 := of_decide_eq_false h2
          obtain ⟨q1, q2⟩ := ih (i + 1) h (by omega)
          refine ⟨fun j h4 h5 => ⟨fun h6 => by omega, fun h6 => ?_⟩, q2⟩
          by_cases e : j = i
          · subst e; omega
          · exact (q1 j (by omega) h5).2 h6
theorem check_rt {p : Img} (h : check_s p = 0) : Rt p ∧ 0 ≤ p.stack := by
  have n3 : ¬ (3 : Int) = 0 := by decide
  unfold check_s at h
  cases h1 : !(in3_s p.mem 0 64) with
  | true => rw [h1] at h; exact absurd h n3
  | false =>
  rw [h1] at h
  cases h2 : !(in3_s p.stack 0 16) with
  | true => rw [h2] at h; exact absurd h n3
  | false =>
  rw [h2] at h
  cases h3 : !(in3_s p.input 0 16) with
  | true => rw [h3] at h; exact absurd h n3
  | false =>
  rw [h3] at h
  cases h4 : decide ((p.data.length : Int) > p.mem) with
  | true => rw [h4] at h; exact absurd h n3
  | false =>
  rw [h4] at h
  cases h5 : !(in3_s (p.funs.length : Int) 1 16) with
  | true => rw [h5] at h; exact absurd h n3
  | false =>
  rw [h5] at h
  have hf := in3_t (notF h5)
  obtain ⟨q1, q2⟩ := check_l0_t _ 0 (show check_l0 p _ ((0 : Nat) : Int) = 0 from h) (Nat.lt_succ_self _)
  exact ⟨⟨by omega, (q1 0 (Nat.le_refl _) (by omega)).1 rfl, fun j hj => by have := (q1 (j + 1) (Nat.zero_le _) hj).2 (Nat.succ_pos _); simpa using this, q2⟩, (in3_t (notF h2)).1⟩
theorem strayf_t {p : Img} {j : Nat} (h : strayf_s p j = false) : (goes_s (p.code.getD j default).op = true → (j : Int) + 1 < (ends_s p (fun_s p j)).2) ∧ ((p.code.getD j default).op = 21 ∨ (p.code.getD j default).op = 22 → IntKind.u64.wrap (ends_s p (fun_s p j)).1 ≤ (p.code.getD j default).imm ∧ (p.code.getD j default).imm < IntKind.u64.wrap (ends_s p (fun_s p j)).2) := by
  unfold strayf_s at h
  rw [Int.toNat_natCast] at h
  generalize p.code.getD j default = i at h ⊢
  generalize ends_s p (fun_s p j) = e at h ⊢
  have key : (bif i.op == (21 : Int) then (bif decide (i.imm < IntKind.u64.wrap e.1) then true else decide (i.imm ≥ IntKind.u64.wrap e.2)) else (bif i.op == (22 : Int) then (bif decide (i.imm < IntKind.u64.wrap e.1) then true else decide (i.imm ≥ IntKind.u64.wrap e.2)) else (bif i.op == (23 : Int) then decide (i.imm ≥ IntKind.u64.wrap (p.funs.length : Int)) else false))) = false → (i.op = 21 ∨ i.op = 22 → IntKind.u64.wrap e.1 ≤ i.imm ∧ i.imm < IntKind.u64.wrap e.2) := by
    intro h ho
    have h' : (bif decide (i.imm < IntKind.u64.wrap e.1) then true else decide (i.imm ≥ IntKind.u64.wrap e.2)) = false := by
      rcases ho with ho | ho
      · rw [ho] at h; exact h
      · rw [ho] at h; exact h
    cases h1 : decide (i.imm < IntKind.u64.wrap e.1) with
    | true => rw [h1] at h'; cases h'
    | false =>
      rw [h1] at h'
      have h1 := of_decide_eq_false h1
      have h2 := of_decide_eq_false (show decide (i.imm ≥ IntKind.u64.wrap e.2) = false from h')
      exact ⟨by omega, by omega⟩
  cases hg : goes_s i.op with
  | false =>
    rw [hg] at h
    exact ⟨fun h' => absurd h' (by decide), key h⟩
  | true =>
    rw [hg] at h
    cases h1 : decide ((j : Int) + 1 ≥ e.2) with
    | true => rw [h1] at h; cases h
    | false =>
      rw [h1] at h
      exact ⟨fun _ => by have := of_decide_eq_false h1; omega, key h⟩
theorem goes_t {n : Int} (h0 : 0 ≤ n) (h1 : n < 26) (h2 : n ≠ 0) (h3 : n ≠ 21) (h4 : n ≠ 24) (h5 : n ≠ 25) : goes_s n = true := by
  unfold goes_s
  rw [known_iff, decide_eq_true (show 0 ≤ n ∧ n < 26 from ⟨h0, h1⟩)]
  simp [h2, h3, h4, h5]
/-- A place stays in its function, where its instruction goes on. -/
theorem stay {p : Img} (r : Rt p) {x : Int} (h0 : 0 ≤ x) (h1 : x < p.code.length) (hs : strayf_s p x = false) (hg : goes_s (p.code.getD x.toNat default).op = true) : x + 1 < p.code.length ∧ fun_s p (x + 1) = fun_s p x := by
  obtain ⟨j, rfl⟩ : ∃ j : Nat, x = j := ⟨x.toNat, by omega⟩
  rw [Int.toNat_natCast] at hg
  have e := ends_is r h0 h1
  have s := (strayf_t hs).1 hg
  exact ⟨by omega, (e.2.2.2.2 _ (by omega) (by omega)).2 ⟨by omega, s⟩⟩
theorem leap {p : Img} (r : Rt p) (hp : Small p) {x : Int} (h0 : 0 ≤ x) (h1 : x < p.code.length) (hs : strayf_s p x = false) (ho : (p.code.getD x.toNat default).op = 21 ∨ (p.code.getD x.toNat default).op = 22) : 0 ≤ (p.code.getD x.toNat default).imm ∧ (p.code.getD x.toNat default).imm < p.code.length ∧ fun_s p (p.code.getD x.toNat default).imm = fun_s p x := by
  obtain ⟨j, rfl⟩ : ∃ j : Nat, x = j := ⟨x.toNat, by omega⟩
  rw [Int.toNat_natCast] at ho ⊢
  have e := ends_is r h0 h1
  have s := (strayf_t hs).2 ho
  rw [wrap_u64, wrap_u64] at s
  have := hp.2.2
  exact ⟨by omega, by omega, (e.2.2.2.2 _ (by omega) (by omega)).2 ⟨by omega, by omega⟩⟩
theorem fun_head {p : Img} (r : Rt p) {f : Nat} (hf : f < p.funs.length) : 0 ≤ p.funs.getD f 0 ∧ p.funs.getD f 0 < p.code.length ∧ fun_s p (p.funs.getD f 0) = f := by
  have h0 := r.inc.le (Nat.zero_le f) hf
  have h1 := r.inc.le (show f ≤ p.funs.length - 1 by omega) (by omega)
  have := r.last
  have := r.first
  refine ⟨by omega, by omega, (fun_is (by omega) (by omega)).uniq (.inr ⟨by omega, by omega, by rw [Int.toNat_natCast]; exact Int.le_refl _, fun j hj hl => ?_⟩)⟩
  have := r.inc.lt (j - f - 1) f (by omega)
  rwa [show f + (j - f - 1 + 1) = j by omega] at this
/-- The open places below the n-th: each stands behind a call of the function above. -/
def Chain (p : Img) (os : List Int) : Nat → Int → Prop
  | 0, fu => fu = 0
  | n + 1, fu => 1 ≤ os.getD n 0 ∧ os.getD n 0 ≤ p.code.length ∧ (p.code.getD (os.getD n 0 - 1).toNat default).op = 23 ∧ (p.code.getD (os.getD n 0 - 1).toNat default).imm = fu ∧ Chain p os n (fun_s p (os.getD n 0 - 1))
theorem Chain.congr {p : Img} {os os' : List Int} : ∀ (n : Nat) (fu : Int), (∀ j, j < n → os.getD j 0 = os'.getD j 0) → Chain p os n fu → Chain p os' n fu := by
  intro n
  induction n with
  | zero => intro fu _ h; exact h
  | succ n ih =>
    intro fu he h
    have e := he n (Nat.lt_succ_self _)
    unfold Chain at h ⊢
    rw [← e]
    exact ⟨h.1, h.2.1, h.2.2.1, h.2.2.2.1, ih _ (fun j hj => he j (Nat.lt_succ_of_lt hj)) h.2.2.2.2⟩
structure Stands (p : Img) (pl : Int) (os : List Int) : Prop where
  lo : 0 ≤ pl
  hi : pl < p.code.length
  stack : (os.length : Int) ≤ p.stack
  chain : Chain p os os.length (fun_s p pl)
theorem one_stands {p : Img} (r : Rt p) (hp : Small p) (V : ValidP p) (hs : ∀ j, j < p.code.length → strayf_s p j = false) (hI : ImmOk p) {inp : List Int} {pl : Int} {regs : Nat → Int} {mem os : List Int} (S : Stands p pl os) : (one_s p inp pl regs mem os).1 = 0 → Stands p (one_s p inp pl regs mem os).2.1 (one_s p inp pl regs mem os).2.2.2.2 := by
  let Q := fun q : Int × Int × (Nat → Int) × List Int × List Int => q.1 = 0 → Stands p q.2.1 q.2.2.2.2
  show Q (one_s p inp pl regs mem os)
  have h0 := S.lo
  have h1 := S.hi
  have hst : strayf_s p pl = false := by have := hs pl.toNat (by omega); rwa [show ((pl.toNat : Nat) : Int) = pl by omega] at this
  have hv := V.ins pl.toNat (by omega)
  have hgo : goes_s (p.code.getD pl.toNat default).op = true → Stands p (pl + 1) os := fun hg => by
    obtain ⟨a, b⟩ := stay r h0 h1 hst hg
    exact ⟨by omega, a, S.stack, by rw [b]; exact S.chain⟩
  have hleap : ((p.code.getD pl.toNat default).op = 21 ∨ (p.code.getD pl.toNat default).op = 22) → Stands p (IntKind.i64.wrap (p.code.getD pl.toNat default).imm) os := fun ho => by
    obtain ⟨a, b, c⟩ := leap r hp h0 h1 hst ho
    have := hp.2.2
    rw [wrap_i64_id ⟨by omega, by omega⟩]
    exact ⟨a, b, S.stack, by rw [c]; exact S.chain⟩
  have hcall : (p.code.getD pl.toNat default).op = 23 → ¬ (os.length : Int) ≥ p.stack → Stands p (p.funs.getD (p.code.getD pl.toNat default).imm.toNat 0) (os ++ ([pl + 1] : List Int)) := fun ho hn => by
    have hc := hv.f ho
    obtain ⟨a, b, c⟩ := fun_head r (f := (p.code.getD pl.toNat default).imm.toNat) (by omega)
    refine ⟨a, b, by rw [List.length_append]; show ((os.length + 1 : Nat) : Int) ≤ _; omega, ?_⟩
    rw [List.length_append]
    show Chain p (os ++ ([pl + 1] : List Int)) (os.length + 1) _
    unfold Chain
    have e : (os ++ ([pl + 1] : List Int)).getD os.length 0 = pl + 1 := by simp [List.getD_eq_getElem?_getD]
    rw [e, show pl + 1 - 1 = pl by omega, c]
    exact ⟨by omega, by omega, ho, by omega, S.chain.congr _ _ (fun j hj => by simp [List.getD_eq_getElem?_getD, List.getElem?_append_left hj])⟩
  have hback : ¬ (os.length : Int) - 1 < 0 → Stands p (os.getD ((os.length : Int) - 1).toNat 0) (os.take ((os.length : Int) - 1).toNat) := fun hn => by
    obtain ⟨n, hn⟩ : ∃ n, os.length = n + 1 := ⟨os.length - 1, by omega⟩
    rw [hn, show (((n + 1 : Nat) : Int) - 1).toNat = n by omega]
    have C := S.chain
    rw [hn] at C
    unfold Chain at C
    obtain ⟨c1, c2, c3, c4, c5⟩ := C
    have hst' : strayf_s p (os.getD n 0 - 1) = false := by have := hs (os.getD n 0 - 1).toNat (by omega); rwa [show (((os.getD n 0 - 1).toNat : Nat) : Int) = os.getD n 0 - 1 by omega] at this
    obtain ⟨a, b⟩ := stay r (by omega) (by omega) hst' (by rw [c3]; decide)
    rw [show os.getD n 0 - 1 + 1 = os.getD n 0 by omega] at a b
    have hl : (os.take n).length = n := by rw [List.length_take]; omega
    have := S.stack
    refine ⟨by omega, a, by rw [hl]; omega, ?_⟩
    rw [hl, b]
    exact c5.congr _ _ (fun j hj => by simp [List.getD_eq_getElem?_getD, List.getElem?_take, hj])
  have hno : ∀ (e : Int) (a b : Int) (g : Nat → Int) (m' o' : List Int), a ≠ 0 → Q (a, b, g, m', o') := fun _ a b g m' o' h1 h2 => absurd h2 h1
  unfold one_s
  generalize p.code.getD pl.toNat default = i at hv hgo hleap hcall ⊢
  have hop := hv.op
  have hput : ∀ (x : Int), goes_s i.op = true → Q (put1_s p inp pl regs mem os i x) := fun x hg _ => hgo hg
  refine bifP (fun _ => hno 0 _ _ _ _ _ (by decide)) fun _ => bifP (fun _ => hno 0 _ _ _ _ _ (by decide)) fun _ => bifP (fun h => ?_) fun _ => bifP (fun h => ?_) fun n0 => bifP (fun h => ?_) fun _ => bifP (fun h => ?_) fun _ => bifP (fun h => ?_) fun _ => bifP (fun h => ?_) fun _ => bifP (fun h => ?_) fun _ => bifP (fun h => ?_) fun _ => bifP (fun h => ?_) fun n21 => bifP (fun h => ?_) fun _ => bifP (fun h => ?_) fun _ => bifP (fun h => ?_) fun _ => ?_
  · have h := of_decide_eq_true h
    have hg : goes_s i.op = true := goes_t hop.1 hop.2 (by omega) (by omega) (by omega) (by omega)
    show Q (d_apply_s p inp pl regs mem os i)
    unfold d_apply_s
    exact bifP (fun _ => bifP (fun _ => hno 0 _ _ _ _ _ (by decide)) fun _ => bifP (fun _ => hno 0 _ _ _ _ _ (by decide)) fun _ => hput _ hg) fun _ => hput _ hg
  · exact hno 0 _ _ _ _ _ (show ¬ (1 : Int) = 0 by decide)
  · have h := of_decide_eq_true h
    exact hput _ (by rw [h]; decide)
  · have h := of_decide_eq_true h
    exact hput _ (by rw [h]; decide)
  · have h := of_decide_eq_true h
    have hg : goes_s i.op = true := by rw [h]; decide
    show Q (d_load_s p inp pl regs mem os i)
    unfold d_load_s
    exact bifP (fun _ => hno 0 _ _ _ _ _ (by decide)) fun _ => hput _ hg
  · have h := of_decide_eq_true h
    have hg : goes_s i.op = true := by rw [h]; decide
    show Q (d_save_s p inp pl regs mem os i)
    unfold d_save_s
    exact bifP (fun _ => hno 0 _ _ _ _ _ (by decide)) fun _ _ => hgo hg
  · have h := of_decide_eq_true h
    have hg : goes_s i.op = true := by rw [h]; decide
    show Q (d_take_s p inp pl regs mem os i)
    unfold d_take_s
    exact bifP (fun _ => hno 0 _ _ _ _ _ (by decide)) fun _ => hput _ hg
  · have h := of_decide_eq_true h
    exact hput _ (by rw [h]; decide)
  · have h := of_decide_eq_true h
    exact fun _ => hleap (.inl h)
  · have h := of_decide_eq_true h
    show Q (d_branch_s p inp pl regs mem os i)
    unfold d_branch_s
    exact bifP (fun _ _ => hleap (.inr h)) fun _ _ => hgo (by rw [h]; decide)
  · have h := of_decide_eq_true h
    show Q (d_call_s p inp pl regs mem os i)
    unfold d_call_s
    exact bifP (fun _ => hno 0 _ _ _ _ _ (by decide)) fun h2 _ => hcall h (of_decide_eq_false h2)
  · show Q (d_back_s p inp pl regs mem os i)
    unfold d_back_s
    exact bifP (fun _ => hno 0 _ _ _ _ _ (by decide)) fun h2 _ => hback (of_decide_eq_false h2)
  · exact hno 0 _ _ _ _ _ (show ¬ (6 : Int) = 0 by decide)
theorem step_stands {p : Img} (r : Rt p) (hp : Small p) (hI : ImmOk p) {inp : List Int} {pl : Int} {regs : Nat → Int} {mem os : List Int} (S : Stands p pl os) : (step_s p inp pl regs mem os).2.2.2.2 = 0 → Stands p (step_s p inp pl regs mem os).1 (step_s p inp pl regs mem os).2.2.2.1 := by
  unfold step_s
  refine bifP (P := fun q : Int × (Nat → Int) × List Int × List Int × Int => q.2.2.2.2 = 0 → Stands p q.1 q.2.2.2.1) (fun _ h => absurd h (by decide)) fun h => ?_
  have hw := whole_t (notF h)
  have V := enc_valid hp hI hw.1
  exact one_stands r hp V (stray_f (enc_stray hw.1)) hI S
theorem fun_lt {p : Img} (hp : Small p) {x : Int} (h0 : 0 ≤ x) (h1 : x < p.code.length) : fun_s p x < 18446744073709551616 := by
  have := hp.2.1
  rcases fun_is h0 h1 with ⟨h, _⟩ | ⟨_, h, _⟩ <;> omega
theorem lCal_l1_true {p : Img} {inp : List Int} {steps : Int} (hp : Small p) (hI : ImmOk p) {rc : Int → Int → (Nat → Int) → List Int → List Int → Bool} {k pl : Int} {rg : Nat → Int} {ms os : List Int} (hst : (os.length : Int) ≤ p.stack) (hrec : (step_s p inp pl rg ms os).2.2.2.2 = 0 → rc (k + 1) ((step_s p inp pl rg ms os).1) ((step_s p inp pl rg ms os).2.1) ((step_s p inp pl rg ms os).2.2.1) ((step_s p inp pl rg ms os).2.2.2.1) = true) : ∀ (m n : Nat) (fu : Int), Chain p os n fu → fu < 18446744073709551616 → n < m → lCal_l1 p inp steps rc m k pl rg ms os ((n : Int) - 1) fu = true := by
  intro m
  induction m with
  | zero => intro n fu _ _ hm; exact absurd hm (Nat.not_lt_zero _)
  | succ m ih =>
    intro n fu C hf hm
    rw [lCal_l1]
    cases n with
    | zero =>
      rw [show fu = 0 from C]
      refine bifP (P := fun b => b = true) (fun h => absurd (of_decide_eq_true h) (by omega)) fun _ => ?_
      refine bifP (P := fun b => b = true) (fun h => absurd h (by decide)) fun _ => ?_
      refine bifP (P := fun b => b = true) (fun h => absurd (of_decide_eq_true h) (by omega)) fun _ => ?_
      refine bifP (P := fun b => b = true) (fun _ => rfl) fun h => hrec (by simpa using h)
    | succ n =>
      obtain ⟨c1, c2, c3, c4, c5⟩ := C
      have := hp.2.2
      rw [show (((n + 1 : Nat) : Int) - 1) = (n : Int) by omega, Int.toNat_natCast, show IntKind.i64.wrap (os.getD n 0 - 1) = os.getD n 0 - 1 from wrap_i64_id ⟨by omega, by omega⟩]
      have hi := hI (os.getD n 0 - 1).toNat
      refine bifP (P := fun b => b = true) (fun _ => ?_) fun h => absurd (of_decide_eq_false h) (by omega)
      refine bifP (P := fun b => b = true) (fun h => absurd (of_decide_eq_true h) (by omega)) fun _ => ?_
      refine bifP (P := fun b => b = true) (fun h => absurd (of_decide_eq_true h) (by omega)) fun _ => ?_
      refine bifP (P := fun b => b = true) (fun h => absurd c3 (by simpa using h)) fun _ => ?_
      refine bifP (P := fun b => b = true) (fun h => absurd c4 ?_) fun _ => ih n _ c5 (fun_lt hp (by omega) (by omega)) (by omega)
      rw [c4] at hi
      rw [wrap_u64, Int.emod_eq_of_lt hi hf] at h
      simpa using h
theorem lCal_l0_true {p : Img} {inp : List Int} {steps : Int} (r : Rt p) (hp : Small p) (hI : ImmOk p) : ∀ (m : Nat) (k pl : Int) (rg : Nat → Int) (ms os : List Int), Stands p pl os → (steps - k).toNat < m → lCal_l0 p inp steps m k pl rg ms os = true := by
  intro m
  induction m with
  | zero => intros; rename_i hm; exact absurd hm (Nat.not_lt_zero _)
  | succ m ih =>
    intro k pl rg ms os S hm
    rw [lCal_l0]
    refine bifP (P := fun b => b = true) (fun h => ?_) fun _ => rfl
    have := of_decide_eq_true h
    exact lCal_l1_true hp hI S.stack (fun h => ih _ _ _ _ _ (step_stands r hp hI S h) (by omega)) _ os.length _ S.chain (fun_lt hp S.lo S.hi) (by omega)
theorem lCal_true (p : Img) (inp : List Int) (steps : Int) (hI : ImmOk p) : lCal_s p inp steps = true := by
  unfold lCal_s
  refine bifP (P := fun b => b = true) (fun _ => rfl) fun hg => ?_
  refine bifP (P := fun b => b = true) (fun _ => rfl) fun hr => ?_
  refine bifP (P := fun b => b = true) (fun _ => rfl) fun _ => ?_
  have hc : check_s p = 0 := by have := notF hr; unfold right_s at this; simpa using this
  obtain ⟨r, hs⟩ := check_rt hc
  have hp := (great_f hg).1
  have h0 := fun_head r (f := 0) r.small
  rw [r.first] at h0
  exact lCal_l0_true r hp hI _ _ _ _ _ _ ⟨Int.le_refl _, h0.2.1, hs, h0.2.2⟩ (Nat.lt_succ_self _)
theorem lCalL_true (p : Img) (inp : List Int) (steps : Int) (b0 : ImgOk p) (b1 : Bytes inp) : Ok Try.prog 6 [.agg [.v (.int .i64 p.mem), .v (.int .i64 p.stack), .v (.int .i64 p.input), .ro 1 p.data.length ((p.data).map eb), .ro 1 p.funs.length ((p.funs).map ei), .ro 5 p.code.length ((p.code).map eIns)], .ro 1 inp.length ((inp).map eb), .v (.int .i64 steps)] (look []) (.v (.bool true)) (postOf [] [])  :=
  by have := lCal_ok p inp steps (imm_of b0); rwa [lCal_true p inp steps (imm_of b0)] at this
end Go.Proofs.Yteolbecihipcaaa.Sx.M5
