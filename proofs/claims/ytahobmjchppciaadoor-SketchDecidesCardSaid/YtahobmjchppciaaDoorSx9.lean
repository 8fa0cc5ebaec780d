/- The road through a function's text: from a place on, all that is left of it. -/
import Derived.Test.YtahobmjchppciaaDoorSx14
namespace Go.Proofs.YtahobmjchppciaaDoor.Sx
open Go Go.RowKit
set_option linter.unusedVariables false
set_option linter.unusedSimpArgs false

/-- From a place of a function's text on the call comes to its end, and R holds. -/
def Goes (P : Program) (f : FuncId) (R : Ending → World → Prop) (todo : List Item) (a : Act) (w : World) : Prop :=
  ∀ (b : Frame) (cs : List Frame), b.fn = f → b.kind = .normal → ∃ e w' fr, R e w' ∧ Comes P (lone (b.at a todo) cs w) (lone fr cs w') e ∧ fr.fn = f ∧ fr.leaving P w' e

section
variable {P : Program} {f : FuncId} {R : Ending → World → Prop} {a a' : Act} {w w' : World} {k k' : List Item}

theorem Goes.step (h : ∀ (b : Frame) (cs : List Frame), Steps P (lone (b.at a k) cs w) (lone (b.at a' k') cs w')) (g : Goes P f R k' a' w') : Goes P f R k a w := by
  intro b cs hb hk
  obtain ⟨e, w2, fr, h1, h2, h3, h4⟩ := g b cs hb hk
  exact ⟨e, w2, fr, h1, Comes.of_steps (h b cs) h2, h3, h4⟩
theorem goes_seq {x y : Code} (g : Goes P f R (.code x :: .code y :: k) a w) : Goes P f R (.code (.seq x y) :: k) a w := g.step fun _ _ => .one step_seq
theorem goes_skip (g : Goes P f R k a w) : Goes P f R (.code .skip :: k) a w := g.step fun _ _ => .one step_skip
theorem goes_inBlock {id : Nat} (g : Goes P f R k a w) : Goes P f R (.inBlock id :: k) a w := g.step fun _ _ => .one step_inBlock
theorem goes_block {id : Nat} {c : Code} (g : Goes P f R (.code c :: .inBlock id :: k) a w) : Goes P f R (.code (.block id c) :: k) a w := g.step fun _ _ => .one step_block
theorem goes_loop {c : Code} (g : Goes P f R (.code c :: .inLoop c :: k) a w) : Goes P f R (.code (.loop c) :: k) a w := g.step fun _ _ => .one step_loop
theorem goes_inLoop {c : Code} (g : Goes P f R (.code c :: .inLoop c :: k) a w) : Goes P f R (.inLoop c :: k) a w := g.step fun _ _ => .one step_inLoop
theorem goes_cond {c : Operand} {x y : Code} {t : Bool} (h : a.eval c = .bool t) (g : Goes P f R (.code (if t then x else y) :: k) a w) : Goes P f R (.code (.cond c x y) :: k) a w := g.step fun _ _ => .one (step_cond h)
theorem goes_exit {id : Nat} (h : exitTo id k = some k') (g : Goes P f R k' a w) : Goes P f R (.code (.exit id) :: k) a w := g.step fun _ _ => .one (step_exit h)
theorem goes_region {c : Code} (h : c.wp P (fun e a' w' => e = .normal ∧ Goes P f R k a' w') a w) : Goes P f R (.code c :: k) a w := by
  intro b cs hb hk
  obtain ⟨e, a', w', ⟨rfl, g⟩, h2⟩ := h b k cs
  obtain ⟨e, w2, fr, h3, h4, h5, h6⟩ := g b cs hb hk
  exact ⟨e, w2, fr, h3, Comes.of_steps h2 h4, h5, h6⟩
theorem goes_ret {fn : Func} {v : Value} (hf : P.funcs[f]? = some fn) (hd : a.defers = []) (hr : (results fn a.tmps).run P w = .ok v w) (h : R (.returned v) w) : Goes P f R (.code .ret :: k) a w := by
  intro b cs hb hk
  subst hb
  exact ⟨.returned v, w, _, h, .one step_ret, rfl, rfl, hd, hk, fn, hf, hr⟩
theorem goes_pan {c : Code} (hf : (P.funcs[f]?).isSome = true) (h : c.wp P (fun e a' w' => (e = .normal ∧ Goes P f R k a' w') ∨ ∃ v, e = .panic [{ v := v, recovered := false }] ∧ a'.defers = [] ∧ R (.panicked [{ v := v, recovered := false }]) w') a w) : Goes P f R (.code c :: k) a w := by
  intro b cs hb hk
  subst hb
  obtain ⟨e, a', w', hq, h2⟩ := h b k cs
  rcases hq with ⟨rfl, g⟩ | ⟨v, rfl, hd, hR⟩
  · obtain ⟨e, w2, fr, h3, h4, h5, h6⟩ := g b cs rfl hk
    exact ⟨e, w2, fr, h3, Comes.of_steps h2 h4, h5, h6⟩
  · obtain ⟨todo, hs⟩ := h2
    obtain ⟨fn, hfn⟩ := Option.isSome_iff_exists.1 hf
    exact ⟨_, w', _, hR, hs, rfl, rfl, hd, fn, hfn⟩
theorem goes_end {fn : Func} {v : Value} (hf : P.funcs[f]? = some fn) (hd : a.defers = []) (hr : (results fn a.tmps).run P w = .ok v w) (h : R (.returned v) w) : Goes P f R [] a w := by
  intro b cs hb hk
  subst hb
  exact ⟨.returned v, w, _, h, .one step_end, rfl, rfl, hd, hk, fn, hf, hr⟩
end

/-- An answer, or a panic. -/
def endOf (pan : Bool) (v : Value) : Ending := match pan with
  | false => .returned v
  | true => .panicked [{ v := v, recovered := false }]
/-- A contract of a call that panics. -/
def OkP (P : Program) (f : FuncId) (args : List AV) (pre : Hp) (pv : AV) (post : Hp) : Prop :=
  ∀ (ρ : Names) (D : Still) (w : World) (vals : List Value), Reps ρ D args vals → Sat (fun _ => True) ρ D pre w →
    Calls P f vals.toArray w fun e w' => ∃ ρ' D' v, e = endOf true v ∧ Step (fun n => post n ≠ none ∧ pre n = none) pre post ρ D w ρ' D' w' ∧ Rep ρ' D' pv v
/-- What a call owes in the end. -/
def Owes (p0 : Hp) (pan : Bool) (res : AV) (post : Hp) (ρ0 : Names) (D0 : Still) (w0 : World) : Ending → World → Prop := fun e w' =>
  ∃ ρ' D' v, e = endOf pan v ∧ Step (fun n => post n ≠ none ∧ p0 n = none) p0 post ρ0 D0 w0 ρ' D' w' ∧ Rep ρ' D' res v

abbrev TL := List (Nat × AV)
abbrev HL := List (Nat × Ob)
def getT (T : TL) (t : Nat) : AV := match T with
  | [] => .junk
  | (s, x) :: T => if s = t then x else getT T t
def look (H : HL) (n : Nat) : Option Ob := match H with
  | [] => none
  | (m, x) :: H => if m = n then some x else look H n

/-- Of a place of a text, and what is known there: the call comes to its end as it owes. -/
def Good (P : Program) (f : FuncId) (nt : Nat) (p0 : Hp) (pan : Bool) (res : AV) (post : Hp) (todo : List Item) (T : TL) (H : HL) : Prop :=
  ∀ ρ0 D0 w0 ρ D a w, TRep nt ρ D (getT T) a → St p0 ρ0 D0 w0 (look H) ρ D w → Goes P f (Owes p0 pan res post ρ0 D0 w0) todo a w

/-- A call begins. -/
theorem calls_of_good {P : Program} {f : FuncId} {fn : Func} {c : Code} {args : List AV} {pre : HL} {pan : Bool} {res : AV} {post : Hp} (hf : P.funcs[f]? = some fn) (hb : fn.body = some c) (hn : args.length ≤ fn.ntmps)
    (h : Good P f fn.ntmps (look pre) pan res post [.code c] (args.zipIdx.map fun x => (x.2, x.1)) pre) : ∀ (ρ : Names) (D : Still) (w : World) (vals : List Value), Reps ρ D args vals → Sat (fun _ => True) ρ D (look pre) w → Calls P f vals.toArray w (Owes (look pre) pan res post ρ D w) := by
  intro ρ D w vals hr hs cs
  let b : Frame := { (default : Frame) with fn := f, kind := .normal }
  have hl := hr.length
  have henter : Frame.enter P f vals.toArray .normal = b.at { tmps := vals.toArray ++ Array.replicate (fn.ntmps - vals.toArray.size) undef, defers := [] } [.code c] := by
    simp [Frame.enter, Frame.at, hf, hb, b]
  have key : ∀ (as : List AV) (vs : List Value) (i : Nat), Reps ρ D as vs → ∀ t, t < i + as.length → i ≤ t → Rep ρ D (getT ((as.zipIdx i).map fun x => (x.2, x.1)) t) (vs.getD (t - i) undef) := by
    intro as
    induction as with
    | nil => intro vs i hr t h1 h2; simp at h1; omega
    | cons x as ih =>
      intro vs i hr t h1 h2
      cases hr with
      | cons r1 r2 =>
        simp only [List.zipIdx_cons, List.map_cons, getT]
        by_cases e : i = t
        · rw [if_pos e, e, Nat.sub_self]; exact r1
        · rw [if_neg e]
          have := ih _ (i + 1) r2 t (by simp at h1; omega) (by omega)
          rwa [show t - i = (t - (i + 1)) + 1 by omega]
  have past : ∀ (as : List AV) (i t : Nat), i + as.length ≤ t → getT ((as.zipIdx i).map fun x => (x.2, x.1)) t = .junk := by
    intro as
    induction as with
    | nil => intro i t _; rfl
    | cons x as ih =>
      intro i t h
      simp only [List.zipIdx_cons, List.map_cons, getT]
      simp at h
      rw [if_neg (by omega)]
      exact ih (i + 1) t (by omega)
  have htr : TRep fn.ntmps ρ D (getT (args.zipIdx.map fun x => (x.2, x.1))) { tmps := vals.toArray ++ Array.replicate (fn.ntmps - vals.toArray.size) undef, defers := [] } := by
    refine ⟨by simp; omega, fun t ht => ?_, rfl⟩
    by_cases c2 : t < args.length
    · have := key args vals 0 hr t (by omega) (Nat.zero_le _)
      simp only [Nat.sub_zero] at this
      rwa [Array.getD_eq_getD_getElem?, Array.getElem?_append_left (by simp; omega), List.getElem?_toArray, ← List.getD_eq_getElem?_getD]
    · rw [past args 0 t (by omega)]
      exact .junk _
  obtain ⟨e, w', fr, h1, h2, h3, h4⟩ := h ρ D w ρ D _ w htr ⟨Step.refl hs⟩ b cs rfl rfl
  exact ⟨e, w', fr, h1, by rw [henter]; exact h2, h3, h4⟩

theorem ok_of_good {P : Program} {f : FuncId} {fn : Func} {c : Code} {args : List AV} {pre : HL} {res : AV} {post : Hp} (hf : P.funcs[f]? = some fn) (hb : fn.body = some c) (hn : args.length ≤ fn.ntmps)
    (h : Good P f fn.ntmps (look pre) false res post [.code c] (args.zipIdx.map fun x => (x.2, x.1)) pre) : Ok P f args (look pre) res post := calls_of_good hf hb hn h
theorem okP_of_good {P : Program} {f : FuncId} {fn : Func} {c : Code} {args : List AV} {pre : HL} {res : AV} {post : Hp} (hf : P.funcs[f]? = some fn) (hb : fn.body = some c) (hn : args.length ≤ fn.ntmps)
    (h : Good P f fn.ntmps (look pre) true res post [.code c] (args.zipIdx.map fun x => (x.2, x.1)) pre) : OkP P f args (look pre) res post := calls_of_good hf hb hn h

/-- More is known than is asked. -/
theorem Good.weak {P : Program} {f : FuncId} {nt : Nat} {p0 : Hp} {pan : Bool} {res : AV} {post : Hp} {todo : List Item} {T T' : TL} {H H' : HL} (g : Good P f nt p0 pan res post todo T H) (hT : ∀ t, t < nt → getT T t = .junk ∨ getT T' t = getT T t) (hH : ∀ n o, look H n = some o → look H' n = some o) : Good P f nt p0 pan res post todo T' H' := by
  intro ρ0 D0 w0 ρ D a w hr hs
  refine g ρ0 D0 w0 ρ D a w ⟨hr.size, fun t ht => ?_, hr.defers⟩ ⟨⟨hs.step.kp, hs.step.names, hs.step.le, hs.step.fresh, ?_⟩⟩
  · rcases hT t ht with h | h
    · rw [h]; exact .junk _
    · rw [← h]; exact hr.reps t ht
  · have hne : ∀ n, look H n ≠ none → look H' n ≠ none := fun n hn => by
      obtain ⟨o, ho⟩ := Option.ne_none_iff_exists'.1 hn
      rw [hH n o ho]; simp
    exact ⟨fun n o ho => hs.step.sat.hold n o (hH n o ho), fun n m b h1 h2 h3 h4 => hs.step.sat.inj n m b (hne n h1) (hne m h2) h3 h4, fun n b h1 h2 => hs.step.sat.dis n b (hne n h1) h2, hs.step.sat.still, hs.step.sat.glob⟩

/-- A slice that is nil is a row of its own. -/
theorem Good.adopt {P : Program} {f : FuncId} {nt : Nat} {p0 : Hp} {pan : Bool} {res : AV} {post : Hp} {todo : List Item} {T T' : TL} {H : HL} {n sz : Nat} {e : TypeId} (hz : 0 < sz) (hn : look H n = none) (hp : p0 n = none) (hu : ∀ t, t < nt → (getT T t).uses n = false) (hh : ∀ m o, look H m = some o → o.uses n = false)
    (hT : ∀ t, t < nt → getT T' t = getT T t ∨ (getT T' t = .own n ∧ getT T t = .v (.slice none 0 0))) (g : Good P f nt p0 pan res post todo T' ((n, .row sz e 0 []) :: H)) : Good P f nt p0 pan res post todo T H := by
  intro ρ0 D0 w0 ρ D a w hr hs
  have hρ : ∀ m, m ≠ n → (fun m => if m = n then Value.slice none 0 0 else ρ m) m = ρ m := fun m hm => if_neg hm
  have hne : ∀ m, m ≠ n → look ((n, .row sz e 0 []) :: H) m = look H m := fun m hm => by simp [look, Ne.symm hm]
  refine g ρ0 D0 w0 (fun m => if m = n then .slice none 0 0 else ρ m) D a w ⟨hr.size, fun t ht => ?_, hr.defers⟩ ⟨⟨hs.step.kp, fun m hm => ?_, hs.step.le, hs.step.fresh, ⟨fun m o ho => ?_, fun m m' b h1 h2 h3 h4 => ?_, fun m b h1 h2 => ?_, hs.step.sat.still, hs.step.sat.glob⟩⟩⟩
  · rcases hT t ht with h | ⟨h1, h2⟩
    · rw [h]
      exact Rep.mono (Still.le_refl D) _ _ (fun m hm => hρ m fun e => by rw [e, hu t ht] at hm; cases hm) (hr.reps t ht)
    · have := hr.reps t ht
      rw [h2] at this
      rw [h1]
      generalize a.tmps.getD t undef = y at this
      cases this
      have := Rep.own (ρ := fun m => if m = n then Value.slice none 0 0 else ρ m) (D := D) n (by rw [if_pos rfl]; rfl)
      rwa [if_pos rfl] at this
  · exact (hρ m fun e => hm (e ▸ hp)).trans (hs.step.names m hm)
  · by_cases c : m = n
    · subst c
      simp only [look, if_true, Option.some.injEq] at ho
      subst ho
      exact ⟨hz, rfl, by show w.ownsRow 0 e sz (if m = m then _ else _) _ _; rw [if_pos rfl]; exact World.ownsRow_nil w 0 e sz, fun r hr => by cases hr⟩
    · rw [hne m c] at ho
      exact Holds.mono (Still.le_refl D) (hρ m c) (fun q hq => hρ q fun e => by rw [e, hh m o ho] at hq; cases hq) (fun _ _ => rfl) (hs.step.sat.hold m o ho)
  · by_cases c : m = n
    · rw [if_pos c] at h4; cases h4
    · by_cases c' : m' = n
      · rw [if_pos c']; intro h; cases h
      · rw [if_neg c] at h4; rw [if_neg c']
        rw [hne m c] at h1; rw [hne m' c'] at h2
        exact hs.step.sat.inj m m' b h1 h2 h3 h4
  · by_cases c : m = n
    · rw [if_pos c] at h2; cases h2
    · rw [if_neg c] at h2; rw [hne m c] at h1
      exact hs.step.sat.dis m b h1 h2
/-- A slice that is nil is a row of its own. -/
theorem Good.adopt2 {P : Program} {f : FuncId} {nt : Nat} {p0 : Hp} {pan : Bool} {res : AV} {post : Hp} {todo : List Item} {T T' : TL} {H H' : HL} {n sz : Nat} {e : TypeId} (hz : 0 < sz) (hn : look H n = none) (hp : p0 n = none) (hu : ∀ t, t < nt → (getT T t).uses n = false) (hh : ∀ m o, look H m = some o → o.uses n = false)
    (hT : ∀ t, t < nt → getT T' t = getT T t ∨ (getT T' t = .own n ∧ getT T t = .v (.slice none 0 0))) (hH : ∀ m o', m ≠ n → look H' m = some o' → ∃ o, look H m = some o ∧ ∀ ρ D w, ρ n = .slice none 0 0 → Holds ρ D w m o → Holds ρ D w m o') (g : Good P f nt p0 pan res post todo T' ((n, .row sz e 0 []) :: H')) : Good P f nt p0 pan res post todo T H := by
  intro ρ0 D0 w0 ρ D a w hr hs
  have hρ : ∀ m, m ≠ n → (fun m => if m = n then Value.slice none 0 0 else ρ m) m = ρ m := fun m hm => if_neg hm
  have hne : ∀ m, m ≠ n → look ((n, .row sz e 0 []) :: H') m = look H' m := fun m hm => by simp [look, Ne.symm hm]
  have hq : ∀ m, m ≠ n → look H' m ≠ none → look H m ≠ none := fun m hm h => by
    obtain ⟨o', ho'⟩ := Option.ne_none_iff_exists'.1 h
    obtain ⟨o, ho, _⟩ := hH m o' hm ho'
    rw [ho]; simp
  refine g ρ0 D0 w0 (fun m => if m = n then .slice none 0 0 else ρ m) D a w ⟨hr.size, fun t ht => ?_, hr.defers⟩ ⟨⟨hs.step.kp, fun m hm => ?_, hs.step.le, hs.step.fresh, ⟨fun m o ho => ?_, fun m m' b h1 h2 h3 h4 => ?_, fun m b h1 h2 => ?_, hs.step.sat.still, hs.step.sat.glob⟩⟩⟩
  · rcases hT t ht with h | ⟨h1, h2⟩
    · rw [h]
      exact Rep.mono (Still.le_refl D) _ _ (fun m hm => hρ m fun e => by rw [e, hu t ht] at hm; cases hm) (hr.reps t ht)
    · have := hr.reps t ht
      rw [h2] at this
      rw [h1]
      generalize a.tmps.getD t undef = y at this
      cases this
      have := Rep.own (ρ := fun m => if m = n then Value.slice none 0 0 else ρ m) (D := D) n (by rw [if_pos rfl]; rfl)
      rwa [if_pos rfl] at this
  · exact (hρ m fun e => hm (e ▸ hp)).trans (hs.step.names m hm)
  · by_cases c : m = n
    · subst c
      simp only [look, if_true, Option.some.injEq] at ho
      subst ho
      exact ⟨hz, rfl, by show w.ownsRow 0 e sz (if m = m then _ else _) _ _; rw [if_pos rfl]; exact World.ownsRow_nil w 0 e sz, fun r hr => by cases hr⟩
    · rw [hne m c] at ho
      obtain ⟨o0, ho0, hr0⟩ := hH m o c ho
      exact hr0 _ _ _ (if_pos rfl) (Holds.mono (Still.le_refl D) (hρ m c) (fun q hq => hρ q fun e => by rw [e, hh m o0 ho0] at hq; cases hq) (fun _ _ => rfl) (hs.step.sat.hold m o0 ho0))
  · by_cases c : m = n
    · rw [if_pos c] at h4; cases h4
    · by_cases c' : m' = n
      · rw [if_pos c']; intro h; cases h
      · rw [if_neg c] at h4; rw [if_neg c']
        rw [hne m c] at h1; rw [hne m' c'] at h2
        exact hs.step.sat.inj m m' b (hq m c h1) (hq m' c' h2) h3 h4
  · by_cases c : m = n
    · rw [if_pos c] at h2; cases h2
    · rw [if_neg c] at h2; rw [hne m c] at h1
      exact hs.step.sat.dis m b (hq m c h1) h2
end Go.Proofs.YtahobmjchppciaaDoor.Sx
