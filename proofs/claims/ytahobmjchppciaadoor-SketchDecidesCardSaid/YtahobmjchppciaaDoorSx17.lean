/- Calls that answer or panic, by one contract; what is known in the end may be said more weakly. -/
import Derived.Test.YtahobmjchppciaaDoorSx16
namespace Go.Proofs.YtahobmjchppciaaDoor.Sx
open Go Go.RowKit
set_option linter.unusedVariables false
set_option linter.unusedSimpArgs false
section
variable {P : Program} {f : FuncId} {fn : Func} {pre : HL} {hints : List (Nat × Hint)}

/-- A road to a loop's head, however the call ends. -/
theorem run_any {want : Want} {B : Bool} {res : AV} {post : Hp} (hf : P.funcs[f]? = some fn) (hm : P.follows .mixedOrders = true) (hp : want.pan = false) : ∀ (n : Nat) (todo : List Item) (T : TL) (H : HL) (C : List Prop) (todo' : List Item), run P fn pre hints want n todo T H = some (C, .loop todo' (want.T.map (·.2)) (want.H.map fun x => some x.2)) → All C →
    Good P f fn.ntmps (look pre) B res post todo' want.T want.H → Good P f fn.ntmps (look pre) B res post todo T H := by
  intro n
  induction n with
  | zero => intro todo T H C fin he; cases he
  | succ n ih =>
    intro todo T H C todo' he hc hg
    simp only [run] at he
    split at he
    · simp only [Option.some.injEq, Prod.mk.injEq, Fin.loop.injEq] at he
      obtain ⟨rfl, rfl, h1, h2⟩ := he
      exact hg.weak (fun t _ => sameT_ok h1 t) (sameH_ok h2)
    rename_i hstop
    clear hstop
    have nof : ∀ {C' : List Prop} {fin : Fin}, finish P fn pre want T H = some fin → fin = .loop todo' (want.T.map (·.2)) (want.H.map fun x => some x.2) → False := by
      intro _ fin h e
      subst e
      unfold finish at h
      split at h
      · split at h <;> cases h
      · cases h
    split at he
    · obtain ⟨fin', h1, h2⟩ := Option.map_eq_some_iff.1 he
      cases h2
      exact (nof (C' := []) h1 rfl).elim
    · obtain ⟨fin', h1, h2⟩ := Option.map_eq_some_iff.1 he
      cases h2
      exact (nof (C' := []) h1 rfl).elim
    · exact (ih _ _ _ _ _ he hc hg).of_goes fun R a w _ g => goes_skip g
    · exact (ih _ _ _ _ _ he hc hg).of_goes fun R a w _ g => goes_seq g
    · rename_i c x y k
      have key : ∀ t : Bool, evA T c = .v (.bool t) → (Good P f fn.ntmps (look pre) B res post (.code (if t then x else y) :: k) T H) → (∀ z, c = .tmp z → z < fn.ntmps) → Good P f fn.ntmps (look pre) B res post (.code (.cond c x y) :: k) T H := by
        intro t ht g hz
        refine g.of_goes fun R a w ⟨ρ, D, hT⟩ g => goes_cond ?_ g
        have r := hT.eval hz
        have ht' : evT (getT T) c = .v (.bool t) := ht
        rw [ht'] at r
        generalize a.eval c = v at r
        cases r
        rfl
      split at he
      · rename_i hcv
        split at he
        · rename_i hz
          exact key true hcv (ih _ _ _ _ _ he hc hg) (fun z e => by subst e; simpa [condOk] using hz)
        · cases he
      · rename_i hcv
        split at he
        · rename_i hz
          exact key false hcv (ih _ _ _ _ _ he hc hg) (fun z e => by subst e; simpa [condOk] using hz)
        · cases he
      · cases he
    · exact (ih _ _ _ _ _ he hc hg).of_goes fun R a w _ g => goes_block g
    · exact (ih _ _ _ _ _ he hc hg).of_goes fun R a w _ g => goes_inBlock g
    · split at he
      · rename_i k' hk
        exact (ih _ _ _ _ _ he hc hg).of_goes fun R a w _ g => goes_exit hk g
      · cases he
    · simp only [Option.some.injEq, Prod.mk.injEq, Fin.loop.injEq] at he
      obtain ⟨rfl, rfl, h1, h2⟩ := he
      exact (hg.weak (fun t _ => sameT_ok h1 t) (sameH_ok h2)).of_goes fun R a w _ g => goes_loop g
    · simp only [Option.some.injEq, Prod.mk.injEq, Fin.loop.injEq] at he
      obtain ⟨rfl, rfl, h1, h2⟩ := he
      exact (hg.weak (fun t _ => sameT_ok h1 t) (sameH_ok h2)).of_goes fun R a w _ g => goes_inLoop g
    · split at he
      · rename_i hpan
        rw [hp] at hpan; cases hpan
      · split at he
        · rename_i T' H' C' hev
          obtain ⟨⟨C2, fin2⟩, h1, h2⟩ := Option.map_eq_some_iff.1 he
          simp only [Prod.mk.injEq] at h2
          obtain ⟨rfl, rfl⟩ := h2
          obtain ⟨hc1, hc2⟩ := hc.append
          exact evRegion_ok hm hev hc1 (ih _ _ _ _ _ h1 hc2 hg)
        · cases he
    · split at he
      · rename_i T' H' C' hev
        obtain ⟨⟨C2, fin2⟩, h1, h2⟩ := Option.map_eq_some_iff.1 he
        simp only [Prod.mk.injEq] at h2
        obtain ⟨rfl, rfl⟩ := h2
        obtain ⟨hc1, hc2⟩ := hc.append
        exact evRegion_ok hm hev hc1 (ih _ _ _ _ _ h1 hc2 hg)
      · cases he
    · cases he
/-- From a place on to a loop's head, however the call ends. -/
theorem goodA_head {todo todo' : List Item} {T0 T : TL} {H0 H : HL} {B : Bool} {res : AV} {post : Hp} {C : List Prop} (hf : P.funcs[f]? = some fn) (hm : P.follows .mixedOrders = true) (n : Nat) (hints : List (Nat × Hint))
    (hc : All C) (he : run P fn pre hints ⟨T, H, .junk, [], false⟩ n todo T0 H0 = some (C, .loop todo' (T.map (·.2)) (H.map fun x => some x.2))) (hg : Good P f fn.ntmps (look pre) B res post todo' T H) : Good P f fn.ntmps (look pre) B res post todo T0 H0 :=
  run_any (want := ⟨T, H, .junk, [], false⟩) hf hm rfl n _ _ _ _ _ he hc hg
end
/-- A contract of a call that answers, or panics. -/
def OkB (P : Program) (f : FuncId) (args : List AV) (pre : Hp) (pan : Bool) (res : AV) (post : Hp) : Prop :=
  ∀ (ρ : Names) (D : Still) (w : World) (vals : List Value), Reps ρ D args vals → Sat (fun _ => True) ρ D pre w → Calls P f vals.toArray w (Owes pre pan res post ρ D w)
section
variable {P : Program} {f : FuncId} {fn : Func} {args : List AV} {pan : Bool} {res res' pv : AV} {pre post : Hp}
theorem okB_of_good {pre : HL} {c : Code} (hf : P.funcs[f]? = some fn) (hb : fn.body = some c) (hn : Nat.ble args.length fn.ntmps = true)
    (h : Good P f fn.ntmps (look pre) pan res post [.code c] (args.zipIdx.map fun x => (x.2, x.1)) pre) : OkB P f args (look pre) pan res post := calls_of_good hf hb (Nat.le_of_ble_eq_true hn) h
theorem OkB.toOk {q0 : Hp} {pre' p1 p0 : HL} (hp : pan = false) (h : OkB P f args q0 pan (bif pan then pv else res) (postOf pre' (bif pan then p1 else p0))) : Ok P f args q0 res (postOf pre' p0) := by
  subst hp; exact h
theorem OkB.toP {q0 : Hp} {pre' p1 p0 : HL} (hp : pan = true) (h : OkB P f args q0 pan (bif pan then pv else res) (postOf pre' (bif pan then p1 else p0))) : OkP P f args q0 pv (postOf pre' p1) := by
  subst hp; exact h
end
/-- Less is said of blocks. -/
inductive LeO : Ob → Ob → Prop
  | refl (a) : LeO a a
  | cells (t) {as bs} : LeL as bs → LeO (.cells as t) (.cells bs t)
inductive LeH : HL → HL → Prop
  | nil : LeH [] []
  | cons (n) {a b as bs} : LeO a b → LeH as bs → LeH ((n, a) :: as) ((n, b) :: bs)
theorem LeO.holds {ρ : Names} {D : Still} {w : World} {n : Nat} : ∀ {a b : Ob}, LeO a b → Holds ρ D w n a → Holds ρ D w n b
  | _, _, .refl _, h => h
  | _, _, .cells _ l, ⟨b, vs, h1, h2, h3, h4⟩ => ⟨b, vs, h1, h2, l.reps _ h3, h4⟩
theorem LeH.look : ∀ {A B : HL}, LeH A B → ∀ n, (Go.Proofs.YtahobmjchppciaaDoor.Sx.look A n = none ∧ Go.Proofs.YtahobmjchppciaaDoor.Sx.look B n = none) ∨ ∃ a b, Go.Proofs.YtahobmjchppciaaDoor.Sx.look A n = some a ∧ Go.Proofs.YtahobmjchppciaaDoor.Sx.look B n = some b ∧ LeO a b
  | _, _, .nil, n => .inl ⟨rfl, rfl⟩
  | _, _, .cons m l q, n => by
    simp only [Go.Proofs.YtahobmjchppciaaDoor.Sx.look]
    split
    · exact .inr ⟨_, _, rfl, rfl, l⟩
    · exact q.look n
theorem Good.postLe {P : Program} {f : FuncId} {nt : Nat} {pre : HL} {p0 : Hp} {pan : Bool} {res : AV} {A B : HL} {todo : List Item} {T : TL} {H : HL} (l : LeH A B) (g : Good P f nt p0 pan res (postOf pre A) todo T H) : Good P f nt p0 pan res (postOf pre B) todo T H := by
  have key : ∀ n, (postOf pre A n = none ∧ postOf pre B n = none) ∨ ∃ a b, postOf pre A n = some a ∧ postOf pre B n = some b ∧ LeO a b := by
    intro n
    rw [postOf_at, postOf_at]
    rcases l.look n with ⟨h1, h2⟩ | ⟨a, b, h1, h2, h3⟩
    · rw [h1, h2]
      cases h : look pre n with
      | none => exact .inl ⟨rfl, rfl⟩
      | some o => exact .inr ⟨o, o, rfl, rfl, .refl o⟩
    · rw [h1, h2]
      have hg : gone a = gone b := by cases h3 <;> rfl
      cases hq : gone a with
      | true => exact .inl ⟨by simp [endOb, hq], by simp [endOb, ← hg, hq]⟩
      | false => exact .inr ⟨a, b, by simp [endOb, hq], by simp [endOb, ← hg, hq], h3⟩
  have ne : ∀ n, postOf pre B n ≠ none ↔ postOf pre A n ≠ none := by
    intro n
    rcases key n with ⟨h1, h2⟩ | ⟨a, b, h1, h2, h3⟩
    · rw [h1, h2]
    · rw [h1, h2]; simp
  intro ρ0 D0 w0 ρ D a w hr hs b cs hb hk
  obtain ⟨e, w', fr, ⟨ρ', D', v, rfl, t, hv⟩, q⟩ := g ρ0 D0 w0 ρ D a w hr hs b cs hb hk
  refine ⟨_, w', fr, ⟨ρ', D', v, rfl, ⟨t.kp, fun n hn => t.names n fun q => hn ⟨(ne n).2 q.1, q.2⟩, t.le, t.fresh, ⟨fun n o ho => ?_, fun n m b h1 h2 => t.sat.inj n m b ((ne n).1 h1) ((ne m).1 h2), fun n b h1 => t.sat.dis n b ((ne n).1 h1), t.sat.still, t.sat.glob⟩⟩, hv⟩, q⟩
  rcases key n with ⟨h1, h2⟩ | ⟨x, y, h1, h2, h3⟩
  · rw [h2] at ho; cases ho
  · rw [h2] at ho; cases ho; exact h3.holds (t.sat.hold n x h1)
theorem fbif {a b : Bool} (h : (a || b) = false) : a = false ∧ b = false := by
  cases a <;> cases b <;> simp_all
theorem maxE (k : IntKind) (x y : Int) : AV.v (.int k (if y > x then y else x)) = AV.v (.int k (max x y)) := by
  congr 2; omega
theorem minE (k : IntKind) (x y : Int) : AV.v (.int k (if y < x then y else x)) = AV.v (.int k (min x y)) := by
  congr 2; omega
/-- Two rows are handed over, to be only read. -/
theorem Ok.eat2 {P : Program} {f : FuncId} {args args' : List AV} {res : AV} {n m sz k sz' k' : Nat} {e e' : TypeId} {rows rows' : List (List Value)} (h : Ok P f args' (look []) res (postOf [] [])) (hnm : (m == n) = false) (ha : subL m (.ro sz' k' rows') (subL n (.ro sz k rows) args) = args') :
    Ok P f args (look [(n, .row sz e k rows), (m, .row sz' e' k' rows')]) res (updL (look [(n, .row sz e k rows), (m, .row sz' e' k' rows')]) [(n, none), (m, none)]) := by
  have hnm : m ≠ n := by simpa using hnm
  subst ha
  have e1 : updL (look [(n, Ob.row sz e k rows), (m, Ob.row sz' e' k' rows')]) [(n, none), (m, none)] = postOf [] [] := by
    funext x
    simp only [updL, lookU, look, postOf, List.map_nil]
    by_cases c1 : n = x
    · simp [c1]
    · by_cases c2 : m = x
      · simp [c2]
      · simp [c1, c2]
  rw [e1]
  refine Ok.eat (n := n) (sz := sz) (k := k) (e := e) (rows := rows) (by simp [look]) rfl ?_
  have e2 : hpSub n (.ro sz k rows) (look [(n, Ob.row sz e k rows), (m, Ob.row sz' e' k' rows')]) = look [(m, Ob.row sz' e' k' rows')] := by
    funext x
    unfold hpSub
    split
    · rename_i hx; subst hx; simp [look, hnm]
    · rename_i hx
      simp only [look]
      rw [if_neg (Ne.symm hx)]
      split
      · rfl
      · rfl
  rw [e2]
  refine Ok.eat (n := m) (sz := sz') (k := k') (e := e') (rows := rows') (by simp [look]) rfl ?_
  rw [hpSub_look]; exact h
end Go.Proofs.YtahobmjchppciaaDoor.Sx
