/- At a call's end a block has another name. -/
import Derived.Test.YtahobmjchppciaaDoorSx20
namespace Go.Proofs.YtahobmjchppciaaDoor.Sx
open Go Go.RowKit
set_option linter.unusedVariables false
set_option linter.unusedSimpArgs false

def renU (kp : Bool) (a b : Nat) : HL → List (Nat × Option Ob)
  | [] => []
  | (k, o) :: L => if k = a then (if kp = true then (a, none) :: (b, some (renO a b o)) :: renU kp a b L else (b, some (renO a b o)) :: renU kp a b L) else (k, (endOb o).map (renO a b)) :: renU kp a b L
theorem renU_b {kp : Bool} {a b : Nat} (hab : a ≠ b) : ∀ {L : HL}, L.all (fun x => x.1 != b) = true → lookU (renU kp a b L) b = (look L a).map fun o => some (renO a b o)
  | [], _ => rfl
  | (k, o) :: L, h => by
    simp only [List.all_cons, Bool.and_eq_true, bne_iff_ne, ne_eq] at h
    have ih := renU_b (kp := kp) hab h.2
    unfold renU
    by_cases c : k = a
    · subst c
      rw [if_pos rfl]
      cases kp with
      | true => simp only [lookU, look, if_true, if_neg h.1]; rfl
      | false => simp [lookU, look]
    · rw [if_neg c]
      simp only [lookU, look]
      rw [if_neg h.1, if_neg c, ih]
theorem renU_a {a b : Nat} (hab : a ≠ b) : ∀ {L : HL}, lookU (renU true a b L) a = (look L a).map fun _ => none
  | [] => rfl
  | (k, o) :: L => by
    have ih := renU_a hab (L := L)
    unfold renU
    by_cases c : k = a
    · subst c
      rw [if_pos rfl]
      simp only [lookU, look, if_true]; rfl
    · rw [if_neg c]
      simp only [lookU, look]
      rw [if_neg c, if_neg c, ih]
theorem renU_n {a b : Nat} (hab : a ≠ b) : ∀ {L : HL}, lookU (renU false a b L) a = none
  | [] => rfl
  | (k, o) :: L => by
    have ih := renU_n hab (L := L)
    unfold renU
    by_cases c : k = a
    · subst c
      rw [if_pos rfl]
      simp only [Bool.false_eq_true, if_false, lookU]
      rw [if_neg (Ne.symm hab), ih]
    · rw [if_neg c]
      simp only [lookU]
      rw [if_neg c, ih]
theorem renU_o {kp : Bool} {a b k : Nat} (ha : k ≠ a) (hb : k ≠ b) : ∀ {L : HL}, lookU (renU kp a b L) k = (look L k).map fun o => (endOb o).map (renO a b)
  | [] => rfl
  | (k', o) :: L => by
    have ih := renU_o (kp := kp) ha hb (L := L)
    unfold renU
    by_cases c : k' = a
    · subst c
      rw [if_pos rfl]
      cases kp with
      | true => simp only [if_true, lookU, look]; rw [if_neg (Ne.symm ha), if_neg (Ne.symm hb), if_neg (Ne.symm ha), ih]
      | false => simp only [Bool.false_eq_true, if_false, lookU, look]; rw [if_neg (Ne.symm hb), if_neg (Ne.symm ha), ih]
    · rw [if_neg c]
      simp only [lookU, look]
      by_cases c2 : k' = k
      · rw [if_pos c2, if_pos c2]; rfl
      · rw [if_neg c2, if_neg c2, ih]

/-- What must be so. -/
def renOk (kp : Bool) (a b : Nat) (pre ch : HL) (res : AV) : Bool :=
  (kp || (look pre a).isNone) && a != b && ch.all (fun x => x.1 != b && !x.2.uses b) && ((look ch a).bind endOb).isSome && (look pre b).isNone && pre.all (fun x => (look ch x.1).isSome) && !res.uses b
theorem look_none_of {pre ch : HL} (h : pre.all (fun x => (look ch x.1).isSome) = true) {k : Nat} (hk : look ch k = none) : look pre k = none := by
  induction pre with
  | nil => rfl
  | cons x L ih =>
    simp only [List.all_cons, Bool.and_eq_true] at h
    simp only [look]
    rw [if_neg, ih h.2]
    intro e
    rw [e, hk] at h; cases h.1
theorem Owes.ren {kp : Bool} {a b : Nat} {pre ch : HL} {pan : Bool} {res : AV} {ρ : Names} {D : Still} {w w' : World} {en : Ending} (hc : renOk kp a b pre ch res = true) (q : Owes (look pre) pan res (postOf pre ch) ρ D w en w') :
    Owes (look pre) pan (renA a b res) (updL (look pre) (renU kp a b ch)) ρ D w en w' := by
  simp only [renOk, Bool.and_eq_true, bne_iff_ne, ne_eq, Bool.not_eq_true', Option.isNone_iff_eq_none, Bool.or_eq_true] at hc
  obtain ⟨⟨⟨⟨⟨⟨h0, hab⟩, h1⟩, h2⟩, h3⟩, h4⟩, h5⟩ := hc
  have h1a : ch.all (fun x => x.1 != b) = true := by
    rw [List.all_eq_true] at h1 ⊢
    intro x hx
    have := h1 x hx
    simp only [Bool.and_eq_true] at this
    exact this.1
  have hO : ∀ m o, look ch m = some o → o.uses b = false := by
    intro m o h
    have := List.all_eq_true.1 h1 _ (look_mem h)
    simp only [Bool.and_eq_true, Bool.not_eq_true'] at this
    exact this.2
  have hkb : look ch b = none := by
    cases hq : look ch b with
    | none => rfl
    | some o =>
      have := List.all_eq_true.1 h1a _ (look_mem hq)
      simp at this
  obtain ⟨oa, hoa2⟩ := Option.isSome_iff_exists.1 h2
  obtain ⟨oa', hoa, hoa3⟩ := Option.bind_eq_some_iff.1 hoa2
  obtain ⟨rfl, hg⟩ := endOb_some hoa3
  have pOld : ∀ k, postOf pre ch k = (look ch k).bind endOb := by
    intro k
    rw [postOf_at]
    cases hq : look ch k with
    | some o => rfl
    | none => exact look_none_of h4 hq
  have pB : updL (look pre) (renU kp a b ch) b = some (renO a b oa') := by
    unfold updL
    rw [renU_b hab h1a, hoa]; rfl
  have pA : updL (look pre) (renU kp a b ch) a = none := by
    unfold updL
    cases kp with
    | true => rw [renU_a hab, hoa]; rfl
    | false =>
      rw [renU_n hab]
      rcases h0 with h0 | h0
      · cases h0
      · exact h0
  have pO : ∀ k, k ≠ a → k ≠ b → updL (look pre) (renU kp a b ch) k = ((look ch k).bind endOb).map (renO a b) := by
    intro k q1 q2
    unfold updL
    rw [renU_o q1 q2]
    cases hq : look ch k with
    | some o => rfl
    | none => exact look_none_of h4 hq
  have old : ∀ k o, updL (look pre) (renU kp a b ch) k = some o → ∃ k0 o0, (look ch k0).bind endOb = some o0 ∧ k = nm a b k0 ∧ o = renO a b o0 ∧ k0 ≠ b := by
    intro k o h
    by_cases c1 : k = a
    · rw [c1, pA] at h; cases h
    · by_cases c2 : k = b
      · rw [c2, pB] at h
        exact ⟨a, oa', hoa2, by simp [nm, c2], (Option.some.inj h).symm, hab⟩
      · rw [pO k c1 c2] at h
        obtain ⟨o0, q1, q2⟩ := Option.map_eq_some_iff.1 h
        exact ⟨k, o0, q1, by simp [nm, c1], q2.symm, c2⟩
  obtain ⟨ρ', D', v, rfl, t, hv⟩ := q
  have key : ∀ m, m ≠ b → (fun m => if m = b then ρ' a else if m = a then ρ a else ρ' m) (nm a b m) = ρ' m := by
    intro m hm
    unfold nm
    by_cases c : m = a
    · simp [c]
    · simp only [if_neg c, if_neg hm]
  have oldn : ∀ m, updL (look pre) (renU kp a b ch) m ≠ none → ∃ m0, postOf pre ch m0 ≠ none ∧ m = nm a b m0 ∧ m0 ≠ b := by
    intro m h
    obtain ⟨o, ho⟩ := Option.ne_none_iff_exists'.1 h
    obtain ⟨m0, o0, q1, q2, q3, q4⟩ := old m o ho
    exact ⟨m0, by rw [pOld, q1]; simp, q2, q4⟩
  refine ⟨fun m => if m = b then ρ' a else if m = a then ρ a else ρ' m, D', v, rfl, ⟨t.kp, fun m hm => ?_, t.le, t.fresh, ⟨fun m o ho => ?_, fun m m' k g1 g2 g3 g4 g5 => ?_, fun m k g1 g2 => ?_, t.sat.still, t.sat.glob⟩⟩, ren_rep key _ _ h5 hv⟩
  · by_cases c1 : m = b
    · exact absurd ⟨by rw [c1, pB]; simp, by rw [c1]; exact h3⟩ hm
    · by_cases c2 : m = a
      · rw [if_neg c1, if_pos c2, c2]
      · rw [if_neg c1, if_neg c2]
        refine t.names m fun q => hm ⟨?_, q.2⟩
        have q1 := q.1
        rw [pOld] at q1
        rw [pO m c2 c1]
        simpa using q1
  · obtain ⟨m0, o0, q1, rfl, rfl, q4⟩ := old m o ho
    obtain ⟨o1, q5, q6⟩ := Option.bind_eq_some_iff.1 q1
    obtain ⟨rfl, _⟩ := endOb_some q6
    have hh := t.sat.hold m0 o1 (by rw [pOld, q1])
    have e := key m0 q4
    have hu := hO m0 _ q5
    cases o1 with
    | cells cs te =>
      obtain ⟨q, vs, p1, p2, p3, p4⟩ := hh
      exact ⟨q, vs, e.trans p1, p2, renL_rep key _ _ hu p3, p4⟩
    | row sz el k rows =>
      obtain ⟨p1, p2, p3, p4⟩ := hh
      refine ⟨p1, p2, ?_, p4⟩
      show w'.ownsRow 0 el sz ((fun m => if m = b then ρ' a else if m = a then ρ a else ρ' m) (nm a b m0)) _ _
      rw [e]; exact p3
    | lit sz el k rows =>
      obtain ⟨p1, p2, ⟨p3, p5, p6, p7⟩, p4⟩ := hh
      exact ⟨p1, p2, ⟨p3, p5, e.trans p6, p7⟩, p4⟩
  · obtain ⟨m1, q1, rfl, n1⟩ := oldn m g1
    obtain ⟨m2, q2, rfl, n2⟩ := oldn m' g2
    have e1 := key m1 n1
    have e2 := key m2 n2
    exact t.sat.inj m1 m2 k q1 q2 (fun e => g3 (by rw [e])) (e1 ▸ g4) (e2 ▸ g5)
  · obtain ⟨m1, q1, rfl, n1⟩ := oldn m g1
    have e1 := key m1 n1
    exact t.sat.dis m1 k q1 (e1 ▸ g2)

theorem Ok.renEnd {P : Program} {f : FuncId} {args : List AV} {pre ch : HL} {res res' : AV} {ch' : HL} (kp : Bool) (a b : Nat) (h : Ok P f args (look pre) res (postOf pre ch)) (hc : renOk kp a b pre ch res = true) (hr : renA a b res = res') (hL : renU kp a b ch = ch'.map fun x => (x.1, endOb x.2)) :
    Ok P f args (look pre) res' (postOf pre ch') := by
  subst hr
  unfold postOf
  rw [← hL]
  intro ρ D w vals hv hs
  exact (h ρ D w vals hv hs).mono fun en w' q => Owes.ren (pan := false) hc q
theorem Good.renEnd {P : Program} {f : FuncId} {nt : Nat} {todo : List Item} {T : TL} {H : HL} {pre ch : HL} {res res' : AV} {ch' : HL} {pan : Bool} (kp : Bool) (a b : Nat) (g : Good P f nt (look pre) pan res (postOf pre ch) todo T H) (hc : renOk kp a b pre ch res = true) (hr : renA a b res = res') (hL : renU kp a b ch = ch'.map fun x => (x.1, endOb x.2)) :
    Good P f nt (look pre) pan res' (postOf pre ch') todo T H := by
  subst hr
  unfold postOf
  rw [← hL]
  intro ρ0 D0 w0 ρ D ac w h1 hs b' cs hb hk
  obtain ⟨e, w', fr, q1, q2⟩ := g ρ0 D0 w0 ρ D ac w h1 hs b' cs hb hk
  exact ⟨e, w', fr, Owes.ren hc q1, q2⟩
theorem Good.cast {P : Program} {f : FuncId} {nt : Nat} {p0 : Hp} {pan : Bool} {res : AV} {post : Hp} {todo : List Item} {T T' : TL} {H H' : HL} (hT : T = T') (hH : H = H') (g : Good P f nt p0 pan res post todo T' H') : Good P f nt p0 pan res post todo T H := by
  subst hT; subst hH; exact g
end Go.Proofs.YtahobmjchppciaaDoor.Sx
