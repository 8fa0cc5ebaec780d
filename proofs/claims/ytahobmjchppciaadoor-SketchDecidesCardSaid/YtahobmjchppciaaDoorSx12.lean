/- A certificate's reading: regions, and the road to a loop's head or the end. -/
import Derived.Test.YtahobmjchppciaaDoorSx11
namespace Go.Proofs.YtahobmjchppciaaDoor.Sx
open Go Go.RowKit
set_option linter.unusedVariables false
set_option linter.unusedSimpArgs false

structure EvR where
  go : Bool
  ev : Ev
  H : HL

def toRec (r : EvR) : Rec := ⟨r.go, r.ev.rd, r.ev.upd.map (·.1), look (preOf r.H r.ev.rd), updL (look (preOf r.H r.ev.rd)) r.ev.upd, r.ev.out⟩
def dead : Ev := ⟨.v undef, [], [], []⟩
def deadR : EvR := ⟨false, dead, []⟩

def wantOf (ops : Array Oper) (o : Oper) (T : TL) : Option Bool := match o.guard with
  | none => some true
  | some (g, want) => match (ops[g]?).bind (·.dst) with
    | some d => match getT T d with
      | .v (.bool b) => some (b == want)
      | .v (.tuple a) => if a.size = 0 then some false else none
      | _ => none
    | none => none
def updHL (H : HL) : List (Nat × Option Ob) → HL
  | [] => H
  | (n, some o) :: u => (n, o) :: (updHL H u).filter (fun x => x.1 != n)
  | (n, none) :: u => (updHL H u).filter (fun x => x.1 != n)
theorem look_filter {n m : Nat} : ∀ (H : HL), look (H.filter (fun x => x.1 != n)) m = if n = m then none else look H m
  | [] => by simp [look]
  | (k, x) :: H => by
    have ih := look_filter (n := n) (m := m) H
    by_cases e : k = n
    · subst e
      rw [List.filter_cons_of_neg (by simp)]
      rw [ih]
      by_cases e' : k = m
      · rw [if_pos e', if_pos e']
      · simp only [look]; rw [if_neg e', if_neg e', if_neg e']
    · rw [List.filter_cons_of_pos (by simpa using e)]
      simp only [look]
      by_cases e' : k = m
      · subst e'; rw [if_pos rfl, if_neg (Ne.symm e), if_pos rfl]
      · rw [if_neg e', if_neg e', ih]
theorem look_updHL {n : Nat} {H : HL} : ∀ (u : List (Nat × Option Ob)), look (updHL H u) n = match lookU u n with | some x => x | none => look H n
  | [] => rfl
  | (k, some o) :: u => by
    have ih := look_updHL (n := n) (H := H) u
    simp only [updHL, look, lookU]
    by_cases e : k = n
    · rw [if_pos e, if_pos e]
    · rw [if_neg e, if_neg e, look_filter, if_neg e, ih]
  | (k, none) :: u => by
    have ih := look_updHL (n := n) (H := H) u
    simp only [updHL, lookU]
    rw [look_filter]
    by_cases e : k = n
    · rw [if_pos e, if_pos e]
    · rw [if_neg e, if_neg e, ih]
theorem lookU_mem {n : Nat} : ∀ (u : List (Nat × Option Ob)), (u.map (·.1)).contains n = (lookU u n).isSome
  | [] => rfl
  | (k, x) :: u => by
    have ih := lookU_mem (n := n) u
    simp only [List.map_cons, List.contains_cons, lookU]
    by_cases e : k = n
    · rw [if_pos e, show (n == k) = true by simpa using e.symm]; rfl
    · rw [if_neg e, ih, show (n == k) = false by simpa using Ne.symm e, Bool.false_or]

section
variable {P : Program} {nt : FT} {ops : Array Oper}

theorem tAt_succ {rs : Nat → Rec} {T0 : Nat → AV} {j t : Nat} : tAt ops rs T0 (j + 1) t = match wrT ops rs j t with | some v => v | none => tAt ops rs T0 j t := by
  unfold tAt
  rw [after, if_pos rfl]
  cases wrT ops rs j t <;> rfl
theorem hAt_succ {rs : Nat → Rec} {H0 : Hp} {j n : Nat} : hAt rs H0 (j + 1) n = match wrH rs j n with | some v => v | none => hAt rs H0 j n := by
  unfold hAt
  rw [after, if_pos rfl]
  cases wrH rs j n <;> rfl
def putT (T : TL) (d : Option Nat) (x : AV) : TL := match d with
  | some d => (d, x) :: T
  | none => T
def evOps (P : Program) (nt : Nat) (ops : Array Oper) (hs : Nat → Option Hint) : List Oper → Nat → TL → HL → Option (List EvR × TL × HL)
  | [], _, T, H => some ([], T, H)
  | o :: os, j, T, H =>
    match wantOf ops o T with
    | none => none
    | some go => match (if go then evOp P o T H (hs j) else some dead) with
      | none => none
      | some e =>
        if (o.looksAt ops).all (fun t => decide (t < nt)) = true ∧ o.dst.all (fun d => decide (d < nt)) = true then
          (evOps P nt ops hs os (j + 1) (putT T o.dst e.out) (updHL H e.upd)).map fun r => (⟨go, e, H⟩ :: r.1, r.2)
        else none

structure Here (P : Program) (nt : Nat) (ops : Array Oper) (rs : Nat → Rec) (all : Nat → EvR) (T0 : Nat → AV) (H0 : Hp) (j : Nat) (o : Oper) : Prop where
  spec : ∃ T H, tAt ops rs T0 j = getT T ∧ hAt rs H0 j = look H ∧ (all j).H = H ∧ wantOf ops o T = some (all j).go ∧ (if (all j).go then Fits P o T H (all j).ev else (all j).ev = dead)
  tmps : (∀ t, t ∈ o.looksAt ops → t < nt) ∧ (∀ d, o.dst = some d → d < nt)

theorem evOps_ok {hs : Nat → Option Hint} {all : Nat → EvR} {T0 : Nat → AV} {H0 : Hp} : ∀ (todo : List Oper) (j : Nat) (T : TL) (H : HL) (rs : List EvR) (T' : TL) (H' : HL), evOps P nt ops hs todo j T H = some (rs, T', H') →
    All (rs.flatMap (·.ev.cond)) → (∀ (i : Nat) (r : EvR), rs[i]? = some r → all (j + i) = r) → (∀ (i : Nat) (o : Oper), todo[i]? = some o → ops[j + i]? = some o) →
    tAt ops (fun k => toRec (all k)) T0 j = getT T → hAt (fun k => toRec (all k)) H0 j = look H →
    (∀ (i : Nat) (o : Oper), todo[i]? = some o → Here P nt ops (fun k => toRec (all k)) all T0 H0 (j + i) o) ∧ tAt ops (fun k => toRec (all k)) T0 (j + todo.length) = getT T' ∧ hAt (fun k => toRec (all k)) H0 (j + todo.length) = look H'
  | [], j, T, H, rs, T', H', he, hc, ha, ho, hT, hH => by
    simp only [evOps, Option.some.injEq, Prod.mk.injEq] at he
    obtain ⟨rfl, rfl, rfl⟩ := he
    exact ⟨fun i o h => by simp at h, hT, hH⟩
  | o :: os, j, T, H, rs, T', H', he, hc, ha, ho, hT, hH => by
    simp only [evOps] at he
    split at he
    · cases he
    · rename_i go hgo
      split at he
      · cases he
      · rename_i e hev
        split at he
        · rename_i hb
          obtain ⟨⟨rs', T1, H1⟩, h1, h2⟩ := Option.map_eq_some_iff.1 he
          simp only [Prod.mk.injEq] at h2
          obtain ⟨rfl, rfl, rfl⟩ := h2
          have hj : all j = ⟨go, e, H⟩ := by simpa using ha 0 _ rfl
          simp only [List.flatMap_cons] at hc
          obtain ⟨hc1, hc2⟩ := hc.append
          have hoj : ops[j]? = some o := by simpa using ho 0 o rfl
          have hT1 : tAt ops (fun k => toRec (all k)) T0 (j + 1) = getT (putT T o.dst e.out) := by
            funext t
            rw [tAt_succ, hT]
            unfold wrT
            rw [hoj]
            simp only [Option.bind_some, hj, toRec]
            cases o.dst with
            | none => rfl
            | some d =>
              simp only [putT, getT]
              by_cases c : d = t
              · rw [if_pos c, if_pos c]
              · rw [if_neg c, if_neg c]
          have hH1 : hAt (fun k => toRec (all k)) H0 (j + 1) = look (updHL H e.upd) := by
            funext n
            rw [hAt_succ, hH, look_updHL]
            unfold wrH
            simp only [hj, toRec, lookU_mem, updL]
            cases lookU e.upd n with
            | none => rfl
            | some x => rfl
          obtain ⟨r1, r2, r3⟩ := evOps_ok os (j + 1) _ _ rs' T1 H1 h1 hc2 (fun i r h => by rw [Nat.add_assoc, Nat.add_comm 1 i]; exact ha (i + 1) r (by simpa using h)) (fun i o' h => by rw [Nat.add_assoc, Nat.add_comm 1 i]; exact ho (i + 1) o' (by simpa using h)) hT1 hH1
          refine ⟨fun i o' h => ?_, ?_, ?_⟩
          · cases i with
            | zero =>
              simp only [List.getElem?_cons_zero, Option.some.injEq] at h
              subst h
              refine ⟨⟨T, H, hT, hH, by rw [Nat.add_zero, hj], by rw [Nat.add_zero, hj]; exact hgo, ?_⟩, ?_⟩
              · rw [Nat.add_zero, hj]
                cases go with
                | true => exact evOp_ok hev hc1
                | false => simpa using (Option.some.inj hev).symm
              · refine ⟨fun t ht => of_decide_eq_true (List.all_eq_true.1 hb.1 t ht), fun d hd => ?_⟩
                have := hb.2
                rw [hd] at this
                exact of_decide_eq_true this
            | succ i =>
              have := r1 i o' (by simpa using h)
              rwa [Nat.add_assoc, Nat.add_comm 1 i] at this
          · rw [List.length_cons, show j + (os.length + 1) = j + 1 + os.length by omega]; exact r2
          · rw [List.length_cons, show j + (os.length + 1) = j + 1 + os.length by omega]; exact r3
        · cases he

/-- Is every new name new? -/
def newOne (ord : Nat → Nat → Bool) (p0 : HL) (T0 : TL) (H0 : HL) (rs : List EvR) (j : Nat) (n : Nat) : Bool :=
  (look H0 n).isNone && (look p0 n).isNone && T0.all (fun x => !x.2.uses n) && H0.all (fun x => !x.2.uses n) &&
  (rs.zipIdx.all fun r => r.2 == j || ord j r.2 || (!(toRec r.1).tells n && !r.1.ev.out.uses n && (preOf r.1.H r.1.ev.rd).all (fun x => !x.2.uses n) && r.1.ev.upd.all (fun x => match x.2 with | some o => !o.uses n | none => true)))
def newOk (ord : Nat → Nat → Bool) (p0 : HL) (T0 : TL) (H0 : HL) (rs : List EvR) : Bool :=
  rs.zipIdx.all fun r => (r.1.ev.upd.map (·.1)).all fun n => (look (preOf r.1.H r.1.ev.rd) n).isSome || newOne ord p0 T0 H0 rs r.2 n
def pairsOk (ops : Array Oper) (ord : Nat → Nat → Bool) (rs : List EvR) : Bool :=
  (List.range rs.length).all fun j => (List.range j).all fun i => !conf ops (fun k => toRec (rs.getD k deadR)) i j || ord i j
def backOk (ops : Array Oper) : Bool := ops.toList.zipIdx.all fun o => o.1.after.toList.all fun e => !Region.binds .any e || decide (e.on < o.2)

theorem getT_all {n : Nat} : ∀ {T : TL}, T.all (fun x => !x.2.uses n) = true → ∀ t, (getT T t).uses n = false
  | [], _, t => rfl
  | (s, x) :: T, h, t => by
    simp only [List.all_cons, Bool.and_eq_true, Bool.not_eq_true'] at h
    simp only [getT]
    split
    · exact h.1
    · exact getT_all h.2 t
theorem zipIdx_all {α : Type} {p : α × Nat → Bool} {l : List α} (h : l.zipIdx.all p = true) {i : Nat} {x : α} (hi : l[i]? = some x) : p (x, i) = true := by
  refine List.all_eq_true.1 h (x, i) ?_
  rw [List.mem_zipIdx_iff_getElem?]
  exact hi

theorem region_of {hs : Nat → Option Hint} {ord : Nat → Nat → Bool} {p0 : HL} {T T' : TL} {H H' : HL} {rs : List EvR} (he : evOps P nt ops hs ops.toList 0 T H = some (rs, T', H')) (hc : All (rs.flatMap (·.ev.cond)))
    (hn : newOk ord p0 T H rs = true) (hp : ∀ i j, i < j → j < rs.length → conf ops (fun k => toRec (rs.getD k deadR)) i j = true → ord i j = true) :
    Region P nt ops (fun k => toRec (rs.getD k deadR)) ord (look p0) (getT T) (look H) ∧ tAt ops (fun k => toRec (rs.getD k deadR)) (getT T) ops.size = getT T' ∧ hAt (fun k => toRec (rs.getD k deadR)) (look H) ops.size = look H' := by
  have len : ∀ (todo : List Oper) (j : Nat) (T : TL) (H : HL) (rs : List EvR) (T' : TL) (H' : HL), evOps P nt ops hs todo j T H = some (rs, T', H') → rs.length = todo.length := by
    intro todo
    induction todo with
    | nil => intro j T H rs T' H' h; simp only [evOps, Option.some.injEq, Prod.mk.injEq] at h; obtain ⟨rfl, _⟩ := h; rfl
    | cons o os ih =>
      intro j T H rs T' H' h
      simp only [evOps] at h
      split at h
      · cases h
      · split at h
        · cases h
        · split at h
          · obtain ⟨⟨rs', T1, H1⟩, h1, h2⟩ := Option.map_eq_some_iff.1 h
            simp only [Prod.mk.injEq] at h2
            obtain ⟨rfl, _⟩ := h2
            simp [ih _ _ _ _ _ _ h1]
          · cases h
  have hlen := len _ _ _ _ _ _ _ he
  obtain ⟨r1, r2, r3⟩ := evOps_ok (all := fun k => rs.getD k deadR) (T0 := getT T) (H0 := look H) ops.toList 0 T H rs T' H' he hc (fun i r h => by simp only [Nat.zero_add, List.getD_eq_getElem?_getD, h]; rfl) (fun i o h => by simpa using h) rfl rfl
  have hsz : ops.toList.length = ops.size := Array.length_toList
  have hlen' : rs.length = ops.size := hlen.trans hsz
  rw [hsz, Nat.zero_add] at r2 r3
  have here : ∀ (j : Nat) (o : Oper), ops[j]? = some o → Here P nt ops (fun k => toRec (rs.getD k deadR)) (fun k => rs.getD k deadR) (getT T) (look H) j o := fun j o h => by
    have := r1 j o (by simpa using h)
    rwa [Nat.zero_add] at this
  have rget : ∀ j, j < ops.size → rs[j]? = some (rs.getD j deadR) := fun j hj => by
    rw [List.getD_eq_getElem?_getD, List.getElem?_eq_getElem (by omega)]; rfl
  refine ⟨⟨fun j o h => (here j o h).tmps, fun j hj n hn' => ?_, fun j hj n hn' => ?_, fun j hj n hn' hq => ?_, fun j o h => ?_, fun j o h hgo => ?_, fun j hj hgo => ?_, fun i j hi hj hcf => hp i j hi (by omega) hcf⟩, r2, r3⟩
  · obtain ⟨T1, H1, h1, h2, h3, h4, h5⟩ := (here j ops[j] (Array.getElem?_eq_some_iff.2 ⟨hj, rfl⟩)).spec
    have hn2 : look (preOf (rs.getD j deadR).H (rs.getD j deadR).ev.rd) n ≠ none := hn'
    show (rs.getD j deadR).ev.rd.contains n = true ∧ hAt (fun k => toRec (rs.getD k deadR)) (look H) j n = look (preOf (rs.getD j deadR).H (rs.getD j deadR).ev.rd) n
    rw [look_preOf] at hn2 ⊢
    split at hn2
    · rename_i hc'
      rw [if_pos hc']
      exact ⟨hc', by rw [h2, h3]⟩
    · exact absurd rfl hn2
  · simp only [toRec, lookU_mem] at hn' ⊢
    unfold updL
    cases hl : lookU (rs.getD j deadR).ev.upd n with
    | none => rfl
    | some x => rw [hl] at hn'; cases hn'
  · have hz := zipIdx_all hn (rget j hj)
    have hmem : n ∈ ((rs.getD j deadR).ev.upd.map (·.1)) := by simpa [toRec] using hn'
    have hz2 := List.all_eq_true.1 hz n hmem
    simp only [toRec] at hq
    rw [hq] at hz2
    simp only [Option.isSome_none, Bool.false_or, newOne, Bool.and_eq_true] at hz2
    obtain ⟨⟨⟨⟨z1, z2⟩, z3⟩, z4⟩, z5⟩ := hz2
    refine ⟨by simpa using z1, by simpa using z2, fun t _ => getT_all z3 t, all_uses z4, fun k hk hkj hok => ?_⟩
    have hzk := zipIdx_all z5 (rget k hk)
    simp only [Bool.or_eq_true, beq_iff_eq, hok, Bool.false_eq_true, or_false, Bool.and_eq_true, Bool.not_eq_true'] at hzk
    rcases hzk with hzk | ⟨⟨⟨q1, q2⟩, q3⟩, q4⟩
    · exact absurd hzk hkj
    · refine ⟨q1, q2, fun m o hm => ?_⟩
      simp only [toRec, updL] at hm
      cases hl : lookU (rs.getD k deadR).ev.upd m with
      | none => rw [hl] at hm; exact all_uses q3 m o hm
      | some x =>
        rw [hl] at hm
        simp only at hm
        subst hm
        have : ∀ (u : List (Nat × Option Ob)), lookU u m = some (some o) → (m, some o) ∈ u := by
          intro u
          induction u with
          | nil => intro h; cases h
          | cons a u ih =>
            intro h
            obtain ⟨k', x'⟩ := a
            simp only [lookU] at h
            split at h
            · rename_i e; subst e; rw [Option.some.inj h]; exact List.mem_cons_self ..
            · exact List.mem_cons_of_mem _ (ih h)
        have hm2 := List.all_eq_true.1 q4 _ (this _ hl)
        simpa using hm2
  · obtain ⟨T1, H1, h1, h2, h3, h4, h5⟩ := (here j o h).spec
    unfold wantOf at h4
    cases hg : o.guard with
    | none => rw [hg] at h4; exact (Option.some.inj h4).symm
    | some gw =>
      obtain ⟨g, want⟩ := gw
      rw [hg] at h4
      simp only at h4 ⊢
      split at h4
      · rename_i d hd
        refine ⟨d, hd, ?_⟩
        rw [h1]
        split at h4
        · rename_i b hb; exact .inl ⟨b, hb, (Option.some.inj h4).symm⟩
        · rename_i a ha
          split at h4
          · rename_i hs0
            refine .inr ⟨?_, (Option.some.inj h4).symm⟩
            rw [ha, Array.eq_empty_of_size_eq_zero hs0]; rfl
          · cases h4
        · cases h4
      · cases h4
  · obtain ⟨T1, H1, h1, h2, h3, h4, h5⟩ := (here j o h).spec
    have hgo' : (rs.getD j deadR).go = true := hgo
    rw [hgo', if_pos rfl] at h5
    show OpOk P o (o.op.operands.toList.map (evT (tAt ops (fun k => toRec (rs.getD k deadR)) (getT T) j))) (look (preOf (rs.getD j deadR).H (rs.getD j deadR).ev.rd)) (rs.getD j deadR).ev.out (updL (look (preOf (rs.getD j deadR).H (rs.getD j deadR).ev.rd)) (rs.getD j deadR).ev.upd)
    rw [h1, h3]
    exact h5
  · obtain ⟨T1, H1, h1, h2, h3, h4, h5⟩ := (here j ops[j] (Array.getElem?_eq_some_iff.2 ⟨hj, rfl⟩)).spec
    have hgo' : (rs.getD j deadR).go = false := hgo
    rw [hgo', if_neg (by simp)] at h5
    simp only [toRec, h5]
    exact ⟨rfl, rfl⟩

def regionOk (p0 : HL) (ops : Array Oper) (T : TL) (H : HL) (rs : List EvR) : Bool → Bool
  | true => newOk (ordOf ops) p0 T H rs && pairsOk ops (ordOf ops) rs && backOk ops
  | false => newOk (fun i j => decide (i < j)) p0 T H rs
def evRegion (P : Program) (nt : Nat) (p0 : HL) (hs : Nat → Option Hint) (ops : Array Oper) (draw : Bool) (T : TL) (H : HL) : Option (TL × HL × List Prop) :=
  match evOps P nt ops hs ops.toList 0 T H with
  | some (rs, T', H') =>
    if regionOk p0 ops T H rs draw = true then some (T', H', rs.flatMap (·.ev.cond)) else none
  | none => none

theorem evRegion_wp {p0 : HL} {hs : Nat → Option Hint} {draw : Bool} {T T' : TL} {H H' : HL} {C : List Prop} {id : Nat} {ρ0 : Names} {D0 : Still} {w0 : World} {ρ : Names} {D : Still} {a : Act} {w : World} {K : Act → World → Prop} (hm : P.follows .mixedOrders = true)
    (he : evRegion P nt p0 hs ops draw T H = some (T', H', C)) (hc : All C) (hK : ∀ ρ' D' a' w', TRep nt ρ' D' (getT T') a' → St (look p0) ρ0 D0 w0 (look H') ρ' D' w' → K a' w')
    (hT : TRep nt ρ D (getT T) a) (hH : St (look p0) ρ0 D0 w0 (look H) ρ D w) : (Code.region id ops draw).wp P (fun e a' w' => e = .normal ∧ K a' w') a w := by
  unfold evRegion at he
  split at he
  · rename_i rs T1 H1 hev
    split at he
    · rename_i hb
      simp only [Option.some.injEq, Prod.mk.injEq] at he
      obtain ⟨rfl, rfl, rfl⟩ := he
      cases draw with
      | true =>
        simp only [regionOk, Bool.and_eq_true] at hb
        obtain ⟨⟨hb1, hb2⟩, hb3⟩ := hb
        obtain ⟨R, q1, q2⟩ := region_of hev hc hb1 (fun i j hi hj hcf => by
          have h1 := List.all_eq_true.1 hb2 j (by simpa using hj)
          have h2 := List.all_eq_true.1 h1 i (by simpa using hi)
          rw [hcf] at h2
          simpa using h2)
        refine R.wpDraw (ordOf_ok ops) (fun j o hj e he' hbd => ?_) hm (fun ρ' D' a' w' h1 h2 => ⟨rfl, hK ρ' D' a' w' (by rw [← q1]; exact h1) (by rw [← q2]; exact h2)⟩) hT hH
        have h1 := zipIdx_all hb3 (show ops.toList[j]? = some o by simpa using hj)
        have h2 := List.all_eq_true.1 h1 e (by simpa using he')
        rw [hbd] at h2
        simpa using h2
      | false =>
        simp only [regionOk] at hb
        obtain ⟨R, q1, q2⟩ := region_of hev hc hb (fun i j hi _ _ => decide_eq_true hi)
        exact R.wpText (fun ρ' D' a' w' h1 h2 => ⟨rfl, hK ρ' D' a' w' (by rw [← q1]; exact h1) (by rw [← q2]; exact h2)⟩) hT hH
    · cases he
  · cases he
theorem evRegion_ok {nt : Nat} {f : FuncId} {p0 : HL} {pan : Bool} {res : AV} {post : Hp} {hs : Nat → Option Hint} {draw : Bool} {T T' : TL} {H H' : HL} {C : List Prop} {id : Nat} {k : List Item} (hm : P.follows .mixedOrders = true)
    (he : evRegion P nt p0 hs ops draw T H = some (T', H', C)) (hc : All C) (g : Good P f nt (look p0) pan res post k T' H') : Good P f nt (look p0) pan res post (.code (.region id ops draw) :: k) T H := fun ρ0 D0 w0 ρ D a w hT hH =>
  goes_region (evRegion_wp (nt := ⟨nt, []⟩) hm he hc (g ρ0 D0 w0) hT hH)
end
end Go.Proofs.YtahobmjchppciaaDoor.Sx
