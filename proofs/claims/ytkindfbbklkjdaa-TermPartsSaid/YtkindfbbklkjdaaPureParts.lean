/- TermParts: a term's beginnings; a node more. -/
import Derived.Test.YtkindfbbklkjdaaPureA
import Derived.Test.YtkindfbbklkjdaaPx26
namespace Go.Proofs.Ytkindfbbklkjdaa.Pure
open Go.RowKit Go.Proofs.Ytkindfbbklkjdaa.P Go.Proofs.YtkindfbbklkjdaaW.PrintWords Go.Proofs.YtkindfbbklkjdaaW.PrintLast Go.Proofs.YtkindfbbklkjdaaW.PrintMore
set_option linter.unusedVariables false

theorem wf_u64p {x : Int} (h : (Lit.int .u64 x).wf = true) : 0 ≤ x ∧ x ≤ 18446744073709551615 := by
  simp only [Lit.wf, Bool.and_eq_true, decide_eq_true_eq] at h
  have h1 : (IntKind.u64).min = 0 := by decide
  have h2 : (IntKind.u64).max = 18446744073709551615 := by decide
  rw [h1, h2] at h
  exact h

theorem chk_ok (l : List S32) (d : Nat) : ∀ i, (chk l d i).1 = 0 → (chk l d i).2 = 0 := by
  induction d with
  | zero => intro i _; rfl
  | succ d ih =>
    intro i h
    simp only [chk] at h ⊢
    by_cases h6 : i = 65536
    · rw [if_pos h6] at h; simp at h
    · rw [if_neg h6] at h ⊢
      by_cases hr : rightN (rd_T32 l i) (l.take i) = 0
      · rw [if_pos hr] at h ⊢; exact ih _ h
      · rw [if_neg hr] at h; exact absurd h hr
theorem chk_go (l : List S32) (e : Nat) (d : Nat) : ∀ i, (chk l d i).1 = 0 → chk l (d + e) i = chk l e (i + d) := by
  induction d with
  | zero => intro i _; simp
  | succ d ih =>
    intro i h
    rw [show d + 1 + e = (d + e) + 1 by omega]
    simp only [chk] at h ⊢
    by_cases h6 : i = 65536
    · rw [if_pos h6] at h; simp at h
    · rw [if_neg h6] at h ⊢
      by_cases hr : rightN (rd_T32 l i) (l.take i) = 0
      · rw [if_pos hr] at h ⊢
        rw [ih _ h, show i + 1 + d = i + (d + 1) by omega]
      · rw [if_neg hr] at h; exact absurd h hr
theorem chk_stop (l : List S32) (e : Nat) (d : Nat) : ∀ i, (chk l d i).1 ≠ 0 → chk l (d + e) i = chk l d i := by
  induction d with
  | zero => intro i h; exact absurd rfl h
  | succ d ih =>
    intro i h
    rw [show d + 1 + e = (d + e) + 1 by omega]
    simp only [chk] at h ⊢
    by_cases h6 : i = 65536
    · rw [if_pos h6, if_pos h6]
    · rw [if_neg h6] at h ⊢
      rw [if_neg h6]
      by_cases hr : rightN (rd_T32 l i) (l.take i) = 0
      · rw [if_pos hr] at h ⊢
        rw [if_pos hr]
        exact ih _ h
      · rw [if_neg hr, if_neg hr]
theorem rd_same {l m : List S32} {i : Nat} (h : l[i]? = m[i]?) : rd_T32 l i = rd_T32 m i := by
  unfold rd_T32
  rw [List.getD_eq_getElem?_getD, List.getD_eq_getElem?_getD, Int.toNat_natCast, h]
/-- Lists that begin alike are checked alike. -/
theorem chk_same (l m : List S32) (n : Nat) (h : l.take n = m.take n) (d : Nat) : ∀ i, i + d ≤ n → chk l d i = chk m d i := by
  induction d with
  | zero => intro i _; rfl
  | succ d ih =>
    intro i hi
    have h1 : l[i]? = m[i]? := by
      have := congrArg (fun x => x[i]?) h
      simp only [List.getElem?_take] at this
      rw [if_pos (by omega), if_pos (by omega)] at this
      exact this
    have h2 : l.take i = m.take i := by
      have := congrArg (List.take i) h
      rw [List.take_take, List.take_take, Nat.min_eq_left (by omega)] at this
      exact this
    simp only [chk]
    rw [rd_same h1, h2, ih (i + 1) (by omega)]
theorem chk_at (l : List S32) (hs : l.length < 65536) (d : Nat) : ∀ i, i + d = l.length → (chk l d i).1 ≠ 0 → i ≤ (chk l d i).2 ∧ (chk l d i).2 < l.length := by
  induction d with
  | zero => intro i _ h; exact absurd rfl h
  | succ d ih =>
    intro i hi h
    simp only [chk] at h ⊢
    have h6 : ¬ i = 65536 := by omega
    rw [if_neg h6] at h ⊢
    by_cases hr : rightN (rd_T32 l i) (l.take i) = 0
    · rw [if_pos hr] at h ⊢
      have := ih (i + 1) (by omega) h
      omega
    · rw [if_neg hr]
      simp only
      omega

theorem checkN_pos {l : List S32} (h : l.length ≠ 0) : checkN l = chk l l.length 0 := by unfold checkN; rw [if_neg h]

/-- A beginning: of a term it is one; its fault is the list's. -/
theorem begin_ (l : List S32) (c : Nat) (h1 : 1 ≤ c) (h2 : c ≤ l.length) :
    ((checkN l).1 = 0 → (checkN (l.take c)).1 = 0 ∧ (checkN (l.take c)).2 = 0) ∧ ((checkN (l.take c)).1 ≠ 0 → checkN l = checkN (l.take c)) := by
  have hlen : (l.take c).length = c := by rw [List.length_take]; omega
  have e : chk (l.take c) c 0 = chk l c 0 := chk_same _ _ c (by rw [List.take_take, Nat.min_self]) c 0 (by omega)
  rw [checkN_pos (show l.length ≠ 0 by omega), checkN_pos (show (l.take c).length ≠ 0 by omega), hlen, e]
  obtain ⟨d, hd⟩ : ∃ d, l.length = c + d := ⟨l.length - c, by omega⟩
  rw [hd]
  by_cases hz : (chk l c 0).1 = 0
  · exact ⟨fun _ => ⟨hz, chk_ok l c 0 hz⟩, fun h => absurd hz h⟩
  · rw [chk_stop l d c 0 hz]
    exact ⟨fun h => absurd h hz, fun _ => rfl⟩
/-- A node more. -/
theorem more_ (l : List S32) (n : S32) (h1 : 1 ≤ l.length) (h2 : l.length < 65536) :
    ((checkN l).1 ≠ 0 → checkN (l ++ [n]) = checkN l) ∧ ((checkN l).1 = 0 → ((checkN (l ++ [n])).1 = 0 ∧ (checkN (l ++ [n])).2 = 0) ∨ ((checkN (l ++ [n])).1 ≠ 0 ∧ (checkN (l ++ [n])).2 = l.length)) := by
  have hlen : (l ++ [n]).length = l.length + 1 := by simp
  have e : chk (l ++ [n]) l.length 0 = chk l l.length 0 := chk_same _ _ l.length (by simp) l.length 0 (by omega)
  rw [checkN_pos (show l.length ≠ 0 by omega), checkN_pos (show (l ++ [n]).length ≠ 0 by omega), hlen]
  constructor
  · intro h
    rw [chk_stop (l ++ [n]) 1 l.length 0 (by rw [e]; exact h), e]
  · intro h
    rw [chk_go (l ++ [n]) 1 l.length 0 (by rw [e]; exact h)]
    simp only [chk, Nat.zero_add]
    rw [if_neg (show ¬ l.length = 65536 by omega)]
    by_cases hr : rightN (rd_T32 (l ++ [n]) (l.length : Int)) ((l ++ [n]).take l.length) = 0
    · rw [if_pos hr]; exact .inl ⟨rfl, rfl⟩
    · rw [if_neg hr]; exact .inr ⟨hr, rfl⟩

theorem TermParts_row (l0 : List S32) (a1 : Int) (a2_0 a2_1 a2_2 a2_3 a2_4 a2_5 : Int) (h0_ : l0.length ≤ maxLen) (h1_ : l0.length * 48 ≤ 140737488351232) (h2_ : (∀ x ∈ l0, (Lit.int .i64 x.f0).wf = true ∧ (Lit.int .i64 x.f1).wf = true ∧ (Lit.int .u64 x.f2).wf = true ∧ (Lit.int .i64 x.f3.f0).wf = true ∧ (Lit.int .i64 x.f3.f1).wf = true ∧ (Lit.int .i64 x.f3.f2).wf = true)) (h3_ : (Lit.int .i64 a1).wf = true) (h4_ : (Lit.int .i64 a2_0).wf = true) (h5_ : (Lit.int .i64 a2_1).wf = true) (h6_ : (Lit.int .u64 a2_2).wf = true) (h7_ : (Lit.int .i64 a2_3).wf = true) (h8_ : (Lit.int .i64 a2_4).wf = true) (h9_ : (Lit.int .i64 a2_5).wf = true) : ∃ k, backreachlaw06_TermParts.f k l0 a1 a2_0 a2_1 a2_2 a2_3 a2_4 a2_5 = some true := by
  refine Ult.ex ?_
  have hf : Fine l0 := fun a ha => wf_u64p (h2_ a ha).2.2.1
  have out : Ult (fun k => backreachlaw06_TermParts.j0 k l0 a1 true a2_0 a2_1 a2_2 a2_3 a2_4 a2_5) true := ⟨1, fun k hk => by obtain ⟨k, rfl⟩ : ∃ m, k = m + 1 := ⟨k - 1, by omega⟩; simp [backreachlaw06_TermParts.j0]⟩
  unfold backreachlaw06_TermParts.f
  simp only [backreachlaw06_awake.f, Option.bind_some, if_true]
  by_cases hl : (l0.length : Int) > 300
  · simp only [if_pos hl]; exact out
  · simp only [if_neg hl]
    by_cases hc : a1 < 1
    · simp only [if_pos hc]; exact out
    · simp only [if_neg hc]
      by_cases hd : a1 > (l0.length : Int)
      · simp only [decide_eq_true hd]; exact out
      · simp only [decide_eq_false hd]
        obtain ⟨c, hcn⟩ : ∃ c : Nat, a1 = c := ⟨a1.toNat, by omega⟩
        subst hcn
        obtain ⟨n, hn⟩ : ∃ n : S32, n = ⟨a2_0, a2_1, a2_2, ⟨a2_3, a2_4, a2_5⟩⟩ := ⟨_, rfl⟩
        have hfm : Fine (l0 ++ [n]) := fun a ha => by
          rcases List.mem_append.1 ha with ha | ha
          · exact hf a ha
          · rw [List.mem_singleton.1 ha, hn]; exact wf_u64p h6_
        have hft : Fine (l0.take c) := fun a ha => hf a (List.mem_of_mem_take ha)
        obtain ⟨b1, b2⟩ := begin_ l0 c (by omega) (by omega)
        obtain ⟨m1, m2⟩ := more_ l0 n (by omega) (by omega)
        have last : Ult (fun k => backreachlaw06_TermParts.j1 k l0 (checkN l0).1 (checkN l0).2 false a2_0 a2_1 a2_2 a2_3 a2_4 a2_5) true := by
          refine Ult.step (f := fun k => (term_Check.f k (l0 ++ [n])).bind fun bt238 => (if (checkN l0).1 = 0 then (if bt238.1 = 0 then (if bt238.2 = 0 then (some true) else (some false)) else (some (bt238.2 == (l0.length : Int)))) else (if bt238.1 = (checkN l0).1 then (if bt238.2 = (checkN l0).2 then (some true) else (some false)) else (some false)))) 1 (fun k => ?_) ?_
          · simp only [backreachlaw06_TermParts.j1, Bool.false_eq_true, if_false, Option.bind_some, List.length_nil, List.nil_append, List.length_singleton]
            rw [if_pos (by omega), if_pos (by omega), hn]
          · refine Ult.bind (check_term (l0 ++ [n]) hfm (by simp; omega)) ?_
            by_cases hz : (checkN l0).1 = 0
            · simp only [if_pos hz]
              rcases m2 hz with ⟨q1, q2⟩ | ⟨q1, q2⟩
              · simp only [if_pos q1, if_pos q2]; exact Ult.now _
              · simp only [if_neg q1]; rw [q2, beq_self_eq_true]; exact Ult.now _
            · simp only [if_neg hz]
              rw [m1 hz]
              simp only [if_true]
              exact Ult.now _
        refine Ult.step (f := fun k => (term_Check.f k l0).bind fun bt218 => (term_Check.f k (l0.take c)).bind fun bt224 => (if bt218.1 = 0 then (if bt224.1 = 0 then (if bt224.2 = 0 then (backreachlaw06_TermParts.j1 k l0 bt218.1 bt218.2 false a2_0 a2_1 a2_2 a2_3 a2_4 a2_5) else (backreachlaw06_TermParts.j1 k l0 bt218.1 bt218.2 true a2_0 a2_1 a2_2 a2_3 a2_4 a2_5)) else (backreachlaw06_TermParts.j1 k l0 bt218.1 bt218.2 true a2_0 a2_1 a2_2 a2_3 a2_4 a2_5)) else (if bt224.1 = 0 then (backreachlaw06_TermParts.j1 k l0 bt218.1 bt218.2 false a2_0 a2_1 a2_2 a2_3 a2_4 a2_5) else (if bt218.1 = bt224.1 then (backreachlaw06_TermParts.j1 k l0 bt218.1 bt218.2 (bt218.2 != bt224.2) a2_0 a2_1 a2_2 a2_3 a2_4 a2_5) else (backreachlaw06_TermParts.j1 k l0 bt218.1 bt218.2 true a2_0 a2_1 a2_2 a2_3 a2_4 a2_5))))) 1 (fun k => ?_) ?_
        · simp only [backreachlaw06_TermParts.j0, Bool.false_eq_true, if_false]
          simp only [if_pos (show (0 : Int) ≤ (c : Int) by omega), if_pos (show (c : Int) ≤ (l0.length : Int) by omega), Int.toNat_natCast]
        · refine Ult.bind (check_term l0 hf (by omega)) (Ult.bind (check_term (l0.take c) hft (by rw [List.length_take]; omega)) ?_)
          by_cases hz : (checkN l0).1 = 0
          · obtain ⟨q1, q2⟩ := b1 hz
            simp only [if_pos hz, if_pos q1, if_pos q2]
            exact last
          · simp only [if_neg hz]
            by_cases ht : (checkN (l0.take c)).1 = 0
            · simp only [if_pos ht]; exact last
            · simp only [if_neg ht]
              have hb := b2 ht
              rw [← hb]
              simp only [if_true, bne_self_eq_false]
              exact last

end Go.Proofs.Ytkindfbbklkjdaa.Pure
