/- Nil answered as a named row; less known of a state; a named row handed over beside a block. -/
import Derived.Test.YteolbecihipcaaaSx22
namespace Go.Proofs.Yteolbecihipcaaa.Sx
open Go Go.RowKit
set_option linter.unusedVariables false
set_option linter.unusedSimpArgs false
/-- Nil that is answered is a named row without elements. -/
theorem Ok.nilOwn {P : Program} {f : FuncId} {args : List AV} (n sz : Nat) (e : TypeId) (hz : 0 < sz) (h : Ok P f args (look []) (.v (.slice none 0 0)) (postOf [] [])) : Ok P f args (look []) (.own n) (postOf [] [(n, .row sz e 0 [])]) := by
  intro ρ D w vals hr hs
  refine (h ρ D w vals hr hs).mono fun en w' q => ?_
  obtain ⟨ρ', D', v, rfl, t, hv⟩ := q
  cases hv
  have pn : ∀ m o, postOf [] [(n, Ob.row sz e 0 [])] m = some o → m = n ∧ o = .row sz e 0 [] := by
    intro m o ho
    rw [postOf_at] at ho
    simp only [look] at ho
    by_cases c : n = m
    · rw [if_pos c] at ho
      exact ⟨c.symm, (endOb_some (show endOb (Ob.row sz e 0 []) = some o from ho)).1.symm⟩
    · rw [if_neg c] at ho; cases ho
  refine ⟨fun m => if m = n then .slice none 0 0 else ρ m, D', _, rfl, ⟨⟨t.kp.os, t.kp.tape, t.kp.output, t.kp.size, t.kp.block⟩, fun m hm => ?_, t.le, t.fresh, ⟨fun m o ho => ?_, fun m m' b h1 h2 h3 h4 h5 => ?_, fun m b h1 h2 => ?_, t.sat.still⟩⟩, ?_⟩
  · refine if_neg fun c => hm ⟨?_, rfl⟩
    subst c
    rw [postOf_at]
    simp only [look, if_true]
    exact fun h => by cases h
  · obtain ⟨rfl, rfl⟩ := pn m o ho
    refine ⟨hz, rfl, ?_, fun r hr => by cases hr⟩
    show w'.ownsRow 0 e sz (if m = m then Value.slice none 0 0 else ρ m) 0 _
    rw [if_pos rfl]; exact World.ownsRow_nil w' 0 e sz
  · obtain ⟨o1, q1⟩ := Option.ne_none_iff_exists'.1 h1
    obtain ⟨o2, q2⟩ := Option.ne_none_iff_exists'.1 h2
    exact absurd ((pn m o1 q1).1.trans (pn m' o2 q2).1.symm) h3
  · obtain ⟨o1, q1⟩ := Option.ne_none_iff_exists'.1 h1
    obtain rfl := (pn m o1 q1).1
    simp [blk] at h2
  · have := Rep.own (ρ := fun m => if m = n then .slice none 0 0 else ρ m) (D := D') n (by simp [Value.oneCell'])
    simpa using this
/-- Less known of a state. -/
theorem Good.leH {P : Program} {f : FuncId} {nt : Nat} {p0 : Hp} {pan : Bool} {res : AV} {post : Hp} {todo : List Item} {T : TL} {H H' : HL} (l : LeH H H') (g : Good P f nt p0 pan res post todo T H') : Good P f nt p0 pan res post todo T H := by
  intro ρ0 D0 w0 ρ D a w hr hs
  have ne : ∀ n, look H' n ≠ none → look H n ≠ none := by
    intro n h
    rcases l.look n with ⟨h1, h2⟩ | ⟨a, b, h1, h2, h3⟩
    · exact absurd h2 h
    · rw [h1]; simp
  refine g ρ0 D0 w0 ρ D a w hr ⟨⟨hs.step.kp, hs.step.names, hs.step.le, hs.step.fresh, ⟨fun n o ho => ?_, fun n m b h1 h2 => hs.step.sat.inj n m b (ne n h1) (ne m h2), fun n b h1 => hs.step.sat.dis n b (ne n h1), hs.step.sat.still⟩⟩⟩
  rcases l.look n with ⟨h1, h2⟩ | ⟨a, b, h1, h2, h3⟩
  · rw [h2] at ho; cases ho
  · rw [h2] at ho; cases ho; exact h3.holds (hs.step.sat.hold n a h1)
/-- A named row is handed over beside a block that is read. -/
theorem Ok.eatC {P : Program} {f : FuncId} {args args' : List AV} {res : AV} {n m sz k : Nat} {e : TypeId} {rows : List (List Value)} {ob : Ob} (h : Ok P f args' (look [(m, ob)]) res (postOf [(m, ob)] [])) (hnm : (m == n) = false) (ho : subO n (.ro sz k rows) ob = ob) (ha : subL n (.ro sz k rows) args = args') :
    Ok P f args (look [(n, .row sz e k rows), (m, ob)]) res (updL (look [(n, .row sz e k rows), (m, ob)]) [(n, none)]) := by
  have hnm : m ≠ n := by simpa using hnm
  subst ha
  have e1 : updL (look [(n, Ob.row sz e k rows), (m, ob)]) [(n, none)] = postOf [(m, ob)] [] := by
    funext x
    simp only [updL, lookU, look, postOf, List.map_nil]
    by_cases c1 : n = x
    · subst c1; simp [hnm]
    · simp [c1]
  rw [e1]
  refine Ok.eat (n := n) (sz := sz) (k := k) (e := e) (rows := rows) (by simp [look]) (by simp [postOf, updL, lookU, look, hnm]) ?_
  have e2 : hpSub n (.ro sz k rows) (look [(n, Ob.row sz e k rows), (m, ob)]) = look [(m, ob)] := by
    funext x
    unfold hpSub
    split
    · rename_i hx; subst hx; simp [look, hnm]
    · rename_i hx
      simp only [look]
      rw [if_neg (Ne.symm hx)]
      split
      · rw [Option.map_some, ho]
      · rfl
  rw [e2]
  exact h
end Go.Proofs.Yteolbecihipcaaa.Sx
