/- Functions that defer: the road to the door, and through the deferred call. -/
import Derived.Test.YtahobmjchppciaaDoorSx17
import Derived.Recover
namespace Go.Proofs.YtahobmjchppciaaDoor.Sx
open Go Go.RowKit
set_option linter.unusedVariables false
set_option linter.unusedSimpArgs false
section
variable {P : Program} {f : FuncId} {fn : Func} {R : Ending → World → Prop} {a : Act} {w : World} {k : List Item}
/-- At a function's end the deferred calls are made. -/
theorem goes_door (hf : P.funcs[f]? = some fn) (h : Leaves P fn a.tmps R a.defers .returning w) : Goes P f R (.code .ret :: k) a w := by
  intro b cs hb hk
  subst hb
  obtain ⟨e, w', fr, h1, h2, h3, h4⟩ := leaves_steps a.defers .returning w { b.at a (.code .ret :: k) with mode := .returning } cs rfl rfl rfl hf hk h
  exact ⟨e, w', fr, h1, Comes.of_steps (.one step_ret) h2, h3, h4⟩
theorem goes_doorEnd (hf : P.funcs[f]? = some fn) (h : Leaves P fn a.tmps R a.defers .returning w) : Goes P f R [] a w := by
  intro b cs hb hk
  subst hb
  obtain ⟨e, w', fr, h1, h2, h3, h4⟩ := leaves_steps a.defers .returning w { b.at a [] with mode := .returning } cs rfl rfl rfl hf hk h
  exact ⟨e, w', fr, h1, Comes.of_steps (.one step_end) h2, h3, h4⟩
theorem goes_panD {c : Code} (hf : P.funcs[f]? = some fn) (h : c.wp P (fun e a' w' => (e = .normal ∧ Goes P f R k a' w') ∨ ∃ v, e = .panic [{ v := v, recovered := false }] ∧ Leaves P fn a'.tmps R a'.defers (.panicking [{ v := v, recovered := false }]) w') a w) : Goes P f R (.code c :: k) a w := by
  intro b cs hb hk
  subst hb
  obtain ⟨e, a', w', hq, h2⟩ := h b k cs
  rcases hq with ⟨rfl, g⟩ | ⟨v, rfl, hl⟩
  · obtain ⟨e, w2, fr, h3, h4, h5, h6⟩ := g b cs rfl hk
    exact ⟨e, w2, fr, h3, Comes.of_steps h2 h4, h5, h6⟩
  · obtain ⟨todo, hs⟩ := h2
    obtain ⟨e, w2, fr, h3, h4, h5, h6⟩ := leaves_steps a'.defers (.panicking [{ v := v, recovered := false }]) w' { b.at a' todo with mode := .panicking [{ v := v, recovered := false }] } cs rfl rfl rfl hf hk hl
    exact ⟨e, w2, fr, h3, Comes.of_steps hs h4, h5, h6⟩
end
theorem TRep.sub {nt : FT} {ρ : Names} {D : Still} {T T' : TL} {a : Act} (h : TRep nt ρ D (getT T) a) (hT : (T'.map fun x => getT T x.1) = T'.map (·.2)) : TRep nt ρ D (getT T') a :=
  ⟨h.size, fun t ht => by
    rcases sameT_ok hT t with e | e
    · rw [e]; exact .junk _
    · rw [← e]; exact h.reps t ht, h.defers⟩
theorem St.sub {p0 : Hp} {ρ0 ρ : Names} {D0 D : Still} {w0 w : World} {H H' : HL} (s : St p0 ρ0 D0 w0 (look H) ρ D w) (hH : (H'.map fun x => look H x.1) = H'.map fun x => some x.2) : St p0 ρ0 D0 w0 (look H') ρ D w := by
  have hs := sameH_ok hH
  have hne : ∀ n, look H' n ≠ none → look H n ≠ none := fun n hn => by
    obtain ⟨o, ho⟩ := Option.ne_none_iff_exists'.1 hn
    rw [hs n o ho]; simp
  exact ⟨⟨s.step.kp, s.step.names, s.step.le, s.step.fresh, ⟨fun n o ho => s.step.sat.hold n o (hs n o ho), fun n m b h1 h2 h3 h4 => s.step.sat.inj n m b (hne n h1) (hne m h2) h3 h4, fun n b h1 h2 => s.step.sat.dis n b (hne n h1) h2, s.step.sat.still, s.step.sat.glob⟩⟩⟩

/-- Where a road to the door ends, and what is known there of what is wanted. -/
inductive FinD where
  | ret (as : List AV) (obs : List (Option Ob))
  | pan (pv : AV) (as : List AV) (obs : List (Option Ob))
/-- The road to the door. -/
def runD (P : Program) (fn : Func) (pre : HL) (hints : List (Nat × Hint)) (WT : TL) (WH : HL) (pan : Bool) : Nat → List Item → TL → HL → Option (List Prop × FinD)
  | 0, _, _, _ => none
  | n + 1, todo, T, H => match todo with
    | [] => some ([], .ret (WT.map fun x => getT T x.1) (WH.map fun x => look H x.1))
    | .code .ret :: _ => some ([], .ret (WT.map fun x => getT T x.1) (WH.map fun x => look H x.1))
    | .code .skip :: k => runD P fn pre hints WT WH pan n k T H
    | .code (.seq a b) :: k => runD P fn pre hints WT WH pan n (.code a :: .code b :: k) T H
    | .code (.cond c x y) :: k => match evA T c with
      | .v (.bool true) => if condOk fn.ntmps c then runD P fn pre hints WT WH pan n (.code x :: k) T H else none
      | .v (.bool false) => if condOk fn.ntmps c then runD P fn pre hints WT WH pan n (.code y :: k) T H else none
      | _ => none
    | .code (.region id ops false) :: k => if pan then
        match evSeq P fn.ntmps pre ops (fun j => (hints.find? fun h => h.1 == id * 1000 + j).map (·.2)) ops.toList 0 T H with
        | some (C, .norm T' H') => (runD P fn pre hints WT WH pan n k T' H').map fun r => (C ++ r.1, r.2)
        | some (C, .pan T' pv H') => some (C, .pan pv (WT.map fun x => getT T' x.1) (WH.map fun x => look H' x.1))
        | none => none
      else match evRegion P fn.ntmps pre (fun j => (hints.find? fun h => h.1 == id * 1000 + j).map (·.2)) ops false T H with
        | some (T', H', C) => (runD P fn pre hints WT WH pan n k T' H').map fun r => (C ++ r.1, r.2)
        | none => none
    | .code (.region id ops draw) :: k => match evRegion P fn.ntmps pre (fun j => (hints.find? fun h => h.1 == id * 1000 + j).map (·.2)) ops draw T H with
      | some (T', H', C) => (runD P fn pre hints WT WH pan n k T' H').map fun r => (C ++ r.1, r.2)
      | none => none
    | _ => none
section
variable {P : Program} {f : FuncId} {fn : Func} {pre : HL} {hints : List (Nat × Hint)} {WT : TL} {WH : HL} {pan : Bool} {R : Ending → World → Prop} {ds : List Deferred} {ρ0 : Names} {D0 : Still} {w0 : World}
/-- What is owed at the door. -/
def endD (P : Program) (fn : Func) (pre : HL) (WT : TL) (WH : HL) (R : Ending → World → Prop) (ds : List Deferred) (ρ0 : Names) (D0 : Still) (w0 : World) : FinD → Prop
  | .ret as obs => as = WT.map (·.2) ∧ obs = WH.map (fun x => some x.2) ∧ ∀ ρ D a w, TRep ⟨fn.ntmps, ds⟩ ρ D (getT WT) a → St (look pre) ρ0 D0 w0 (look WH) ρ D w → Leaves P fn a.tmps R ds .returning w
  | .pan pv as obs => as = WT.map (·.2) ∧ obs = WH.map (fun x => some x.2) ∧ ∀ ρ D a w v, TRep ⟨fn.ntmps, ds⟩ ρ D (getT WT) a → St (look pre) ρ0 D0 w0 (look WH) ρ D w → Rep ρ D pv v → Leaves P fn a.tmps R ds (.panicking [{ v := v, recovered := false }]) w
theorem runD_ok (hf : P.funcs[f]? = some fn) (hm : P.follows .mixedOrders = true) : ∀ (n : Nat) (todo : List Item) (T : TL) (H : HL) (C : List Prop) (fin : FinD), runD P fn pre hints WT WH pan n todo T H = some (C, fin) → All C →
    endD P fn pre WT WH R ds ρ0 D0 w0 fin → ∀ ρ D a w, TRep ⟨fn.ntmps, ds⟩ ρ D (getT T) a → St (look pre) ρ0 D0 w0 (look H) ρ D w → Goes P f R todo a w := by
  intro n
  induction n with
  | zero => intro todo T H C fin he; cases he
  | succ n ih =>
    intro todo T H C fin he hc hg ρ D a w hT hS
    simp only [runD] at he
    split at he
    · cases he
      obtain ⟨h1, h2, h3⟩ := hg
      exact goes_doorEnd hf (by rw [hT.defers]; exact h3 ρ D a w (hT.sub h1) (hS.sub h2))
    · cases he
      obtain ⟨h1, h2, h3⟩ := hg
      exact goes_door hf (by rw [hT.defers]; exact h3 ρ D a w (hT.sub h1) (hS.sub h2))
    · exact goes_skip (ih _ _ _ _ _ he hc hg ρ D a w hT hS)
    · exact goes_seq (ih _ _ _ _ _ he hc hg ρ D a w hT hS)
    · rename_i c x y k
      have key : ∀ t : Bool, evA T c = .v (.bool t) → (∀ z, c = .tmp z → z < fn.ntmps) → a.eval c = .bool t := by
        intro t ht hz
        have r := hT.eval hz
        have ht' : evT (getT T) c = .v (.bool t) := ht
        rw [ht'] at r
        generalize a.eval c = v at r
        cases r
        rfl
      split at he
      · rename_i hcv
        split at he
        · rename_i hz
          exact goes_cond (key true hcv fun z e => by subst e; simpa [condOk] using hz) (ih _ _ _ _ _ he hc hg ρ D a w hT hS)
        · cases he
      · rename_i hcv
        split at he
        · rename_i hz
          exact goes_cond (key false hcv fun z e => by subst e; simpa [condOk] using hz) (ih _ _ _ _ _ he hc hg ρ D a w hT hS)
        · cases he
      · cases he
    · split at he
      · split at he
        · rename_i C' T' H' hev
          obtain ⟨⟨C2, fin2⟩, h1, h2⟩ := Option.map_eq_some_iff.1 he
          simp only [Prod.mk.injEq] at h2
          obtain ⟨rfl, rfl⟩ := h2
          obtain ⟨hc1, hc2⟩ := hc.append
          have g := ih _ _ _ _ _ h1 hc2 hg
          refine goes_panD hf (wp_region ?_)
          rw [List.range_eq_range', ← Array.length_toList]
          exact evSeq_ok (GN := fun a w => Goes P f R _ a w) (GP := fun a' v w' => Leaves P fn a'.tmps R a'.defers (.panicking [{ v := v, recovered := false }]) w') (nt := ⟨fn.ntmps, ds⟩) _ _ _ _ _ _ hev hc1 (fun i o h => by simpa using h) (fun ρ D a w hT hS => g ρ D a w hT hS) ρ D a w hT hS
        · rename_i C' T' pv H' hev
          cases he
          obtain ⟨hg1, hg2, hg3⟩ := hg
          refine goes_panD hf (wp_region ?_)
          rw [List.range_eq_range', ← Array.length_toList]
          exact evSeq_ok (GN := fun a w => Goes P f R _ a w) (GP := fun a' v w' => Leaves P fn a'.tmps R a'.defers (.panicking [{ v := v, recovered := false }]) w') (nt := ⟨fn.ntmps, ds⟩) _ _ _ _ _ _ hev hc (fun i o h => by simpa using h) (fun ρ D a w v hT hS hv => by rw [hT.defers]; exact hg3 ρ D a w v (hT.sub hg1) (hS.sub hg2) hv) ρ D a w hT hS
        · cases he
      · split at he
        · rename_i T' H' C' hev
          obtain ⟨⟨C2, fin2⟩, h1, h2⟩ := Option.map_eq_some_iff.1 he
          simp only [Prod.mk.injEq] at h2
          obtain ⟨rfl, rfl⟩ := h2
          obtain ⟨hc1, hc2⟩ := hc.append
          exact goes_region (evRegion_wp (nt := ⟨fn.ntmps, ds⟩) hm hev hc1 (ih _ _ _ _ _ h1 hc2 hg) hT hS)
        · cases he
    · split at he
      · rename_i T' H' C' hev
        obtain ⟨⟨C2, fin2⟩, h1, h2⟩ := Option.map_eq_some_iff.1 he
        simp only [Prod.mk.injEq] at h2
        obtain ⟨rfl, rfl⟩ := h2
        obtain ⟨hc1, hc2⟩ := hc.append
        exact goes_region (evRegion_wp (nt := ⟨fn.ntmps, ds⟩) hm hev hc1 (ih _ _ _ _ _ h1 hc2 hg) hT hS)
      · cases he
    · cases he
end
/-- A text without loops, from its beginning to its end. -/
def evCode (P : Program) (nt : Nat) (p0 : HL) (hints : List (Nat × Hint)) : Code → TL → HL → Option (TL × HL × List Prop)
  | .seq a b, T, H => match evCode P nt p0 hints a T H with
    | some (T1, H1, C1) => (evCode P nt p0 hints b T1 H1).map fun r => (r.1, r.2.1, C1 ++ r.2.2)
    | none => none
  | .cond c x y, T, H => match evA T c with
    | .v (.bool true) => if condOk nt c then evCode P nt p0 hints x T H else none
    | .v (.bool false) => if condOk nt c then evCode P nt p0 hints y T H else none
    | _ => none
  | .skip, T, H => some (T, H, [])
  | .region id ops draw, T, H => evRegion P nt p0 (fun j => (hints.find? fun h => h.1 == id * 1000 + j).map (·.2)) ops draw T H
  | _, _, _ => none
theorem evCode_ok {P : Program} {nt : FT} {p0 : HL} {hints : List (Nat × Hint)} {ρ0 : Names} {D0 : Still} {w0 : World} (hm : P.follows .mixedOrders = true) : ∀ (c : Code) (T : TL) (H : HL) (T' : TL) (H' : HL) (C : List Prop) (Q : Exit → Act → World → Prop), evCode P nt.n p0 hints c T H = some (T', H', C) → All C →
    (∀ ρ' D' a' w', TRep nt ρ' D' (getT T') a' → St (look p0) ρ0 D0 w0 (look H') ρ' D' w' → Q .normal a' w') → ∀ ρ D a w, TRep nt ρ D (getT T) a → St (look p0) ρ0 D0 w0 (look H) ρ D w → c.wp P Q a w := by
  intro c
  induction c with
  | seq a b iha ihb =>
    intro T H T' H' C Q he hc hK ρ D ac w hT hS
    simp only [evCode] at he
    split at he
    · rename_i T1 H1 C1 h1
      obtain ⟨⟨T2, H2, C2⟩, h2, h3⟩ := Option.map_eq_some_iff.1 he
      simp only [Prod.mk.injEq] at h3
      obtain ⟨rfl, rfl, rfl⟩ := h3
      obtain ⟨hc1, hc2⟩ := hc.append
      exact wp_seq (iha _ _ _ _ _ _ h1 hc1 (fun ρ' D' a' w' hT' hS' => ihb _ _ _ _ _ _ h2 hc2 hK ρ' D' a' w' hT' hS') ρ D ac w hT hS)
    · cases he
  | cond c x y ihx ihy =>
    intro T H T' H' C Q he hc hK ρ D ac w hT hS
    simp only [evCode] at he
    have key : ∀ t : Bool, evA T c = .v (.bool t) → (∀ z, c = .tmp z → z < nt.n) → ac.eval c = .bool t := by
      intro t ht hz
      have r := hT.eval hz
      have ht' : evT (getT T) c = .v (.bool t) := ht
      rw [ht'] at r
      generalize ac.eval c = v at r
      cases r
      rfl
    split at he
    · rename_i hcv
      split at he
      · rename_i hz
        exact wp_cond (t := true) (key true hcv fun z e => by subst e; simpa [condOk] using hz) (ihx _ _ _ _ _ _ he hc hK ρ D ac w hT hS)
      · cases he
    · rename_i hcv
      split at he
      · rename_i hz
        exact wp_cond (t := false) (key false hcv fun z e => by subst e; simpa [condOk] using hz) (ihy _ _ _ _ _ _ he hc hK ρ D ac w hT hS)
      · cases he
    · cases he
  | skip =>
    intro T H T' H' C Q he hc hK ρ D ac w hT hS
    simp only [evCode, Option.some.injEq, Prod.mk.injEq] at he
    obtain ⟨rfl, rfl, rfl⟩ := he
    exact wp_skip (hK ρ D ac w hT hS)
  | region id ops draw =>
    intro T H T' H' C Q he hc hK ρ D ac w hT hS
    simp only [evCode] at he
    have := evRegion_wp (id := id) (K := fun a' w' => Q .normal a' w') hm he hc hK hT hS
    intro b k cs
    obtain ⟨e, a', w', ⟨rfl, q⟩, h2⟩ := this b k cs
    exact ⟨_, a', w', q, h2⟩
  | _ => intro T H T' H' C Q he; simp [evCode] at he
def evCodeW (P : Program) (nt : Nat) (p0 : HL) (hints : List (Nat × Hint)) (c : Code) (T : TL) (H : HL) (WT : TL) (WH : HL) : Option (List AV × List (Option Ob) × List Prop) := (evCode P nt p0 hints c T H).map fun r => (WT.map fun x => getT r.1 x.1, WH.map fun x => look r.2.1 x.1, r.2.2)
theorem evCode_sub {P : Program} {nt : FT} {p0 : HL} {hints : List (Nat × Hint)} {ρ0 : Names} {D0 : Still} {w0 : World} {c c' : Code} {T : TL} {H : HL} {C : List Prop} {Q : Exit → Act → World → Prop} (hm : P.follows .mixedOrders = true) (WT : TL) (WH : HL) (hcc : c = c')
    (he : evCodeW P nt.n p0 hints c' T H WT WH = some (WT.map (·.2), WH.map (fun x => some x.2), C)) (hc : All C)
    (hK : ∀ ρ' D' a' w', TRep nt ρ' D' (getT WT) a' → St (look p0) ρ0 D0 w0 (look WH) ρ' D' w' → Q .normal a' w') {ρ : Names} {D : Still} {a : Act} {w : World} (hT : TRep nt ρ D (getT T) a) (hS : St (look p0) ρ0 D0 w0 (look H) ρ D w) : c.wp P Q a w := by
  subst hcc
  obtain ⟨⟨T', H', C'⟩, h1, h2⟩ := Option.map_eq_some_iff.1 he
  simp only [Prod.mk.injEq] at h2
  obtain ⟨h2, h3, rfl⟩ := h2
  exact evCode_ok hm c T H T' H' C' Q h1 hc (fun ρ' D' a' w' hT' hS' => hK ρ' D' a' w' (hT'.sub h2) (hS'.sub h3)) ρ D a w hT hS
theorem results_run {P : Program} {fn : Func} {ds : List Deferred} {T : TL} {H : HL} {as : List AV} {mine : Nat → Prop} {ρ : Names} {D : Still} {w : World} {a : Act} (hr : resAll P fn.ntmps T H fn.results.toList = some as) (hT : TRep ⟨fn.ntmps, ds⟩ ρ D (getT T) a) (hS : Sat mine ρ D (look H) w) :
    ∃ v, (results fn a.tmps).run P w = .ok v w ∧ Rep ρ D (resOf as) v := by
  obtain ⟨vs, q1, q2⟩ := resAll_run hS (⟨hT.size, hT.reps, rfl⟩ : TRep fn.ntmps ρ D (getT T) { tmps := a.tmps, defers := [] }) fn.results.toList as hr
  have hrun : (results fn a.tmps).run P w = .ok (if h : vs.length = 1 then vs[0] else .tuple vs.toArray) w := by
    rw [results_sem, Array.mapM_eq_mapM_toList]
    simp only [Sem.run_bind, Sem.run_map, q1, Result.andThen_ok, Sem.run_pure]
    by_cases hl : vs.length = 1
    · simp [hl]
    · simp [hl]
  refine ⟨_, hrun, ?_⟩
  cases q2 with
  | nil => exact .tup _ _ .nil
  | cons r1 r2 =>
    cases r2 with
    | nil => exact r1
    | cons r2 r3 => exact .tup _ _ (.cons r1 (.cons r2 r3))
theorem St.le {p0 : Hp} {ρ0 ρ : Names} {D0 D : Still} {w0 w : World} {A B : HL} (s : St p0 ρ0 D0 w0 (look A) ρ D w) (l : LeH A B) : St p0 ρ0 D0 w0 (look B) ρ D w := by
  have ne : ∀ n, look B n ≠ none → look A n ≠ none := by
    intro n hn
    rcases l.look n with ⟨h1, h2⟩ | ⟨a, b, h1, h2, h3⟩
    · exact absurd h2 hn
    · rw [h1]; simp
  refine ⟨⟨s.step.kp, s.step.names, s.step.le, s.step.fresh, ⟨fun n o ho => ?_, fun n m b h1 h2 => s.step.sat.inj n m b (ne n h1) (ne m h2), fun n b h1 => s.step.sat.dis n b (ne n h1), s.step.sat.still, s.step.sat.glob⟩⟩⟩
  rcases l.look n with ⟨h1, h2⟩ | ⟨x, y, h1, h2, h3⟩
  · rw [h2] at ho; cases ho
  · rw [h2] at ho; cases ho; exact h3.holds (s.step.sat.hold n x h1)
/-- A region that makes a closure and defers its call: the closure's number, where it lies, what it captures, and what is left. -/
def deferOf : List Item → Option (Nat × Nat × Array Operand × List Item)
  | .code (.region _ ops false) :: k => match ops.toList with
    | [o1, o2] => match o1.dst, o1.op, o1.guard, o2.dst, o2.op, o2.guard with
      | some d, .makeFunc (.func g) fs caps, none, none, .defer c, none => match c.callee, c.args.toList, fs.toList with
        | .value (.tmp d'), [], [] => if d' = d then some (g, d, caps, k) else none
        | _, _, _ => none
      | _, _, _, _, _, _ => none
    | _ => none
  | _ => none
theorem goes_defer {P : Program} {f : FuncId} {R : Ending → World → Prop} {a : Act} {w : World} {todo k : List Item} {g d : Nat} {caps : Array Operand} (he : deferOf todo = some (g, d, caps, k)) (hd : d < a.tmps.size) (h0 : a.defers = [])
    (h : Goes P f R k { tmps := a.tmps.setIfInBounds d (.func (.func g) #[] (caps.map a.eval)), defers := [{ target := .fn (.func g) (caps.map a.eval), args := #[] }] } w) : Goes P f R todo a w := by
  unfold deferOf at he
  split at he
  · rename_i ops k'
    split at he
    · rename_i o1 o2 hops
      split at he
      · rename_i d1 g1 fs caps1 c e1 e2 e3 e4 e5 e6
        split at he
        · rename_i d2 hcal hargs hfs
          split at he
          · rename_i hdd
            simp only [Option.some.injEq, Prod.mk.injEq] at he
            obtain ⟨rfl, rfl, rfl, rfl⟩ := he
            subst hdd
            obtain ⟨callee, args, ats⟩ := c
            simp only at hcal hargs
            subst hcal
            have hargs : args = #[] := Array.toList_inj.1 hargs
            have hfs : fs = #[] := Array.toList_inj.1 hfs
            subst hargs hfs
            have ho : ops = #[o1, o2] := Array.toList_inj.1 hops
            subst ho
            refine goes_region (wp_region ?_)
            rw [show (#[o1, o2] : Array Oper).size = 2 from rfl, show List.range 2 = [0, 1] from rfl]
            have r1 : (execOp a.eval o1).run P w = .ok (.value (.func (.func g1) #[] (caps1.map a.eval))) w := by
              simp [execOp, e2, Instr.makeFunc]
            rw [wpOps_cons]
            unfold wpOp
            simp only [List.getElem?_toArray, List.getElem?_cons_zero, Region.wanted, e3, if_true]
            left
            unfold Oper.wp
            rw [r1, Oper.upon_value, wpOps_cons]
            unfold wpOp
            have hev : (a.put o1.dst (.func (.func g1) #[] (caps1.map a.eval))).eval (.tmp d2) = .func (.func g1) #[] (caps1.map a.eval) := by
              rw [e1]
              simp [Act.eval, Act.put, Array.getD_eq_getD_getElem?, hd]
            have r2 : (execOp (a.put o1.dst (.func (.func g1) #[] (caps1.map a.eval))).eval o2).run P w = .ok (.defer { target := .fn (.func g1) (caps1.map a.eval), args := #[] }) w := by
              simp [execOp, e5, resolve, hev, Deferred.ofValue]
            simp only [List.getElem?_toArray, List.getElem?_cons_succ, List.getElem?_cons_zero, Region.wanted, e6, if_true]
            left
            unfold Oper.wp
            rw [r2, Oper.upon_defer, e4, e1]
            refine ⟨rfl, ?_⟩
            simp only [Act.put, h0]
            exact h
          · cases he
        · cases he
      · cases he
    · cases he
  · cases he
def tailD (todo : List Item) : List Item := match deferOf todo with
  | some (_, _, _, k) => k
  | none => []
theorem St.same {p0 : Hp} {ρ0 ρ : Names} {D0 D : Still} {w0 w : World} {H : Hp} (s : St p0 ρ0 D0 w0 H ρ D w) : St H ρ D w H ρ D w := ⟨Step.refl (s.step.sat.part fun _ _ h => h)⟩
/-- A text behind its first part. -/
def restOf (fn : Func) : Code := match fn.body with
  | some (.seq _ b) => b
  | _ => .skip
/-- What is known of a frame, told one by one. -/
theorem TRep.ofList {nt : FT} {ρ : Names} {D : Still} {T : TL} {a : Act} (hs : a.tmps.size = nt.n) (hd : a.defers = nt.ds) (h : ∀ x ∈ T, Rep ρ D x.2 (a.tmps.getD x.1 undef)) : TRep nt ρ D (getT T) a := by
  refine ⟨hs, fun t _ => ?_, hd⟩
  induction T with
  | nil => exact .junk _
  | cons x T ih =>
    simp only [getT]
    split
    · rename_i e; rw [← e]; exact h x (List.mem_cons_self ..)
    · exact ih fun y hy => h y (List.mem_cons_of_mem _ hy)
/-- What a call owes that began with no named block: nothing of blocks. -/
theorem owes_nil {ρ0 ρ ρ' : Names} {D0 D D' : Still} {w0 w w' : World} {H1 : HL} {X : Hp} {v : Value} {res : AV} (h1 : St (look []) ρ0 D0 w0 (look H1) ρ D w) (h2 : St (look H1) ρ D w X ρ' D' w') (hv : Rep ρ' D' res v) (hres : ∀ n, res.uses n = false) : Owes (look []) false res (look []) ρ0 D0 w0 (.returned v) w' := by
  have t : Step (fun n => (look [] : Hp) n ≠ none ∧ look H1 n = none) (look H1) (look []) ρ D w ρ D' w' :=
    ⟨h2.step.kp, fun n _ => rfl, h2.step.le, h2.step.fresh, ⟨fun n o ho => (by cases ho), fun n m b h => absurd rfl h, fun n b h => absurd rfl h, h2.step.sat.still, h2.step.sat.glob⟩⟩
  have s := h1.next (fun n h => h) (fun n h => absurd rfl h) t
  exact ⟨ρ0, D', v, rfl, ⟨s.step.kp, fun n _ => rfl, s.step.le, s.step.fresh, ⟨fun n o ho => (by cases ho), fun n m b h => absurd rfl h, fun n b h => absurd rfl h, s.step.sat.still, s.step.sat.glob⟩⟩, Rep.mono (Still.le_refl D') _ _ (fun n hn => by rw [hres n] at hn; cases hn) hv⟩
end Go.Proofs.YtahobmjchppciaaDoor.Sx
