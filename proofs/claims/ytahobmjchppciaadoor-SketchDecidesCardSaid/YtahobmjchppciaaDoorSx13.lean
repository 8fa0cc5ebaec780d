/- A certificate's reading: the road to a loop's head, or to the end. -/
import Derived.Test.YtahobmjchppciaaDoorSx12
namespace Go.Proofs.YtahobmjchppciaaDoor.Sx
open Go Go.RowKit
set_option linter.unusedVariables false
set_option linter.unusedSimpArgs false

/-- What is to be known at the road's end: at a loop's head, or of the answer. -/
structure Want where
  T : TL
  H : HL
  res : AV
  ch : HL
  pan : Bool := false

/-- Where a road ends, and what is known there of what is wanted. -/
inductive Fin where
  | ret (res : AV) (obs : List (Option Ob))
  | loop (todo : List Item) (as : List AV) (obs : List (Option Ob))

def resOne (P : Program) (nt : Nat) (T : TL) (H : HL) : ResultVar → Option AV
  | .tmp t => if t < nt then some (getT T t) else none
  | .cell a t => if a < nt then match getT T a with
    | .ptr n off => (evLoad P t (.ptr n off) H none).map (·.out)
    | _ => none else none
def resAll (P : Program) (nt : Nat) (T : TL) (H : HL) : List ResultVar → Option (List AV)
  | [] => some []
  | r :: rs => match resOne P nt T H r, resAll P nt T H rs with
    | some a, some as => some (a :: as)
    | _, _ => none
def resOf (as : List AV) : AV := match as with
  | [a] => a
  | as => .tup as

/-- A name that is gone at the end. -/
def gone : Ob → Bool
  | .lit 0 _ _ _ => true
  | _ => false
def endOb (o : Ob) : Option Ob := if gone o = true then none else some o
def postOf (pre ch : HL) : Hp := updL (look pre) (ch.map fun x => (x.1, endOb x.2))

mutual
/-- Are all its names told? -/
def AV.told (ns : Nat → Bool) : AV → Bool
  | .ptr m _ | .own m | .oe m _ _ _ | .mp m => ns m
  | .fn _ a b => toldL ns a && toldL ns b
  | .ifc _ x => x.told ns
  | .agg cs | .tup cs => toldL ns cs
  | _ => true
def toldL (ns : Nat → Bool) : List AV → Bool
  | [] => true
  | a :: as => a.told ns && toldL ns as
end
mutual
theorem told_uses {ns : Nat → Bool} : ∀ (a : AV), a.told ns = true → ∀ n, a.uses n = true → ns n = true
  | .v _, _, n, h => by simp [AV.uses] at h
  | .ptr m _, ht, n, h => by simp [AV.uses] at h; subst h; simpa [AV.told] using ht
  | .own m, ht, n, h => by simp [AV.uses] at h; subst h; simpa [AV.told] using ht
  | .ro _ _ _, _, n, h => by simp [AV.uses] at h
  | .ron _ _ _, _, n, h => by simp [AV.uses] at h
  | .roe _ _, _, n, h => by simp [AV.uses] at h
  | .oe m _ _ _, ht, n, h => by simp [AV.uses] at h; subst h; simpa [AV.told] using ht
  | .mp m, ht, n, h => by simp [AV.uses] at h; subst h; simpa [AV.told] using ht
  | .fn _ a b, ht, n, h => by
    simp only [AV.told, Bool.and_eq_true] at ht
    simp only [AV.uses, Bool.or_eq_true] at h
    rcases h with h | h
    · exact toldL_uses a ht.1 n h
    · exact toldL_uses b ht.2 n h
  | .ifc _ x, ht, n, h => told_uses x (by simpa [AV.told] using ht) n (by simpa [AV.uses] using h)
  | .agg cs, ht, n, h => toldL_uses cs (by simpa [AV.told] using ht) n (by simpa [AV.uses] using h)
  | .tup cs, ht, n, h => toldL_uses cs (by simpa [AV.told] using ht) n (by simpa [AV.uses] using h)
  | .junk, _, n, h => by simp [AV.uses] at h
theorem toldL_uses {ns : Nat → Bool} : ∀ (a : List AV), toldL ns a = true → ∀ n, AV.uses.usesL n a = true → ns n = true
  | [], _, n, h => by simp [AV.uses.usesL] at h
  | a :: as, ht, n, h => by
    simp only [toldL, Bool.and_eq_true] at ht
    simp only [AV.uses.usesL, Bool.or_eq_true] at h
    rcases h with h | h
    · exact told_uses a ht.1 n h
    · exact toldL_uses as ht.2 n h
end
def obTold (ns : Nat → Bool) : Ob → Bool
  | .cells cs _ => toldL ns cs
  | .row _ _ _ _ | .lit _ _ _ _ => true
theorem obTold_uses {ns : Nat → Bool} {o : Ob} (h : obTold ns o = true) (n : Nat) (hu : o.uses n = true) : ns n = true := by
  cases o with
  | cells cs t => exact toldL_uses cs h n hu
  | row => cases hu
  | lit => cases hu

theorem sameH_ok {H : HL} : ∀ {L : HL}, (L.map fun x => look H x.1) = L.map (fun x => some x.2) → ∀ n o, look L n = some o → look H n = some o
  | [], _, n, o, h => by cases h
  | (m, x) :: L, he, n, o, h => by
    simp only [List.map_cons, List.cons.injEq] at he
    simp only [look] at h
    split at h
    · rename_i e; subst e; rw [← h]; exact he.1
    · exact sameH_ok he.2 n o h
theorem sameT_ok {T : TL} : ∀ {L : TL}, (L.map fun x => getT T x.1) = L.map (·.2) → ∀ t, getT L t = .junk ∨ getT T t = getT L t
  | [], _, t => .inl rfl
  | (s, a) :: L, he, t => by
    simp only [List.map_cons, List.cons.injEq] at he
    simp only [getT]
    split
    · rename_i e; subst e; exact .inr he.1
    · exact sameT_ok he.2 t

/-- The blocks that are told in the end. -/
def endH (pre ch : HL) : HL := ch.filter (fun x => !gone x.2) ++ pre.filter fun x => (look ch x.1).isNone
def toldOk (pre : HL) (want : Want) : Bool :=
  let ns := fun n => (look pre n).isSome || ((look want.ch n).bind endOb).isSome
  want.res.told ns && want.ch.all (fun x => obTold ns x.2) && pre.all (fun x => obTold ns x.2)
def finish (P : Program) (fn : Func) (pre : HL) (want : Want) (T : TL) (H : HL) : Option Fin :=
  match resAll P fn.ntmps T H fn.results.toList with
  | some as => if want.pan = false ∧ toldOk pre want = true then some (.ret (resOf as) ((endH pre want.ch).map fun x => look H x.1)) else none
  | none => none

/-- A region in the order of the text, whose last step may be a panic. -/
inductive SeqEnd where
  | norm (T : TL) (H : HL)
  | pan (T : TL) (pv : AV) (H : HL)
def freshOk (p0 : HL) (T : TL) (H : HL) (e : Ev) : Bool :=
  (e.upd.map (·.1)).all fun n => (look (preOf H e.rd) n).isSome || ((look H n).isNone && (look p0 n).isNone && T.all (fun x => !x.2.uses n) && H.all (fun x => !x.2.uses n))
def panOp (P : Program) (p0 : HL) (o : Oper) (T : TL) (H : HL) (h : Option Hint) : Option (List Prop × AV × HL) :=
  match o.op, h with
  | .panic x, _ => match evA T x with
    | .ifc t a => some ([], .ifc t a, H)
    | _ => none
  | .call c, some (.pan rd post pv) => match c.callee with
    | .value g => match targetOf (evA T g) with
      | some (f, a1, a2) => if callable P f = true ∧ freshOk p0 T H ⟨pv, rd, post.map fun x => (x.1, some x.2), []⟩ = true then
          some ([OkP P f (a1 ++ c.args.toList.map (evA T) ++ a2) (look (preOf H rd)) pv (updL (look (preOf H rd)) (post.map fun x => (x.1, some x.2)))], pv, updHL H (post.map fun x => (x.1, some x.2))) else none
      | none => none
    | _ => none
  | _, _ => none
def evSeq (P : Program) (nt : Nat) (p0 : HL) (ops : Array Oper) (hs : Nat → Option Hint) : List Oper → Nat → TL → HL → Option (List Prop × SeqEnd)
  | [], _, T, H => some ([], .norm T H)
  | o :: os, j, T, H =>
    if (o.looksAt ops).all (fun t => decide (t < nt)) = true ∧ o.dst.all (fun d => decide (d < nt)) = true then
      match wantOf ops o T with
      | none => none
      | some go => match (if go then panOp P p0 o T H (hs j) else none) with
        | some (C, pv, H') => some (C, .pan T pv H')
        | none => match (if go then evOp P o T H (hs j) else some dead) with
          | none => none
          | some e => if freshOk p0 T H e = true then (evSeq P nt p0 ops hs os (j + 1) (putT T o.dst e.out) (updHL H e.upd)).map fun r => (e.cond ++ r.1, r.2) else none
    else none

def condOk (nt : Nat) : Operand → Bool
  | .tmp t => decide (t < nt)
  | _ => true
/-- Does a certificate end here? -/
def stopAt (hints : List (Nat × Hint)) : List Item → Bool
  | .code (.region id _ _) :: _ => hints.any fun h => h.1 == id * 1000 + 999
  | _ => false
/-- The road. -/
def run (P : Program) (fn : Func) (pre : HL) (hints : List (Nat × Hint)) (want : Want) : Nat → List Item → TL → HL → Option (List Prop × Fin)
  | 0, _, _, _ => none
  | n + 1, todo, T, H => if stopAt hints todo = true then some ([], .loop todo (want.T.map fun x => getT T x.1) (want.H.map fun x => look H x.1)) else match todo with
    | [] => (finish P fn pre want T H).map ([], ·)
    | .code .ret :: _ => (finish P fn pre want T H).map ([], ·)
    | .code .skip :: k => run P fn pre hints want n k T H
    | .code (.seq a b) :: k => run P fn pre hints want n (.code a :: .code b :: k) T H
    | .code (.cond c x y) :: k => match evA T c with
      | .v (.bool true) => if condOk fn.ntmps c then run P fn pre hints want n (.code x :: k) T H else none
      | .v (.bool false) => if condOk fn.ntmps c then run P fn pre hints want n (.code y :: k) T H else none
      | _ => none
    | .code (.block id c) :: k => run P fn pre hints want n (.code c :: .inBlock id :: k) T H
    | .inBlock _ :: k => run P fn pre hints want n k T H
    | .code (.exit id) :: k => match exitTo id k with
      | some k' => run P fn pre hints want n k' T H
      | none => none
    | .code (.loop c) :: k => some ([], .loop (.code c :: .inLoop c :: k) (want.T.map fun x => getT T x.1) (want.H.map fun x => look H x.1))
    | .inLoop c :: k => some ([], .loop (.code c :: .inLoop c :: k) (want.T.map fun x => getT T x.1) (want.H.map fun x => look H x.1))
    | .code (.region id ops false) :: k => if want.pan then
        match evSeq P fn.ntmps pre ops (fun j => (hints.find? fun h => h.1 == id * 1000 + j).map (·.2)) ops.toList 0 T H with
        | some (C, .norm T' H') => (run P fn pre hints want n k T' H').map fun r => (C ++ r.1, r.2)
        | some (C, .pan _ pv H') => if toldOk pre want = true then some (C, .ret pv ((endH pre want.ch).map fun x => look H' x.1)) else none
        | none => none
      else match evRegion P fn.ntmps pre (fun j => (hints.find? fun h => h.1 == id * 1000 + j).map (·.2)) ops false T H with
        | some (T', H', C) => (run P fn pre hints want n k T' H').map fun r => (C ++ r.1, r.2)
        | none => none
    | .code (.region id ops draw) :: k => match evRegion P fn.ntmps pre (fun j => (hints.find? fun h => h.1 == id * 1000 + j).map (·.2)) ops draw T H with
      | some (T', H', C) => (run P fn pre hints want n k T' H').map fun r => (C ++ r.1, r.2)
      | none => none
    | _ => none

theorem lookU_some {n : Nat} : ∀ (L : HL), lookU (L.map fun x => (x.1, endOb x.2)) n = (look L n).map endOb
  | [] => rfl
  | (m, y) :: L => by
    simp only [List.map_cons, lookU, look]
    split
    · rfl
    · exact lookU_some L
theorem look_mem {n : Nat} {o : Ob} : ∀ {L : HL}, look L n = some o → (n, o) ∈ L
  | [], h => by cases h
  | (m, y) :: L, h => by
    simp only [look] at h
    split at h
    · rename_i e; subst e; rw [Option.some.inj h]; exact List.mem_cons_self ..
    · exact List.mem_cons_of_mem _ (look_mem h)
theorem look_keep {n : Nat} {o : Ob} {C : HL} (hl : look C n = none) : ∀ {L : HL}, look L n = some o → look (L.filter fun x => (look C x.1).isNone) n = some o
  | [], h => by cases h
  | (m, y) :: L, h => by
    simp only [look] at h
    split at h
    · rename_i e
      subst e
      rw [List.filter_cons_of_pos (by simp [hl])]
      simp only [look, if_true]; exact h
    · rename_i e
      have ih := look_keep hl h
      by_cases hm : (look C m).isNone = true
      · rw [List.filter_cons_of_pos (by exact hm)]; simp only [look]; rw [if_neg e]; exact ih
      · rw [List.filter_cons_of_neg (by exact hm)]; exact ih
theorem postOf_at {pre ch : HL} {n : Nat} : postOf pre ch n = match look ch n with | some o => endOb o | none => look pre n := by
  unfold postOf updL
  rw [lookU_some]
  cases look ch n <;> rfl
theorem endOb_some {o x : Ob} (h : endOb o = some x) : o = x ∧ gone o = false := by
  unfold endOb at h
  cases hq : gone o with
  | true => rw [hq] at h; simp at h
  | false => rw [hq] at h; exact ⟨by simpa using h, rfl⟩
theorem look_stay {n : Nat} {o : Ob} (hg : gone o = false) : ∀ {L : HL}, look L n = some o → look (L.filter fun x => !gone x.2) n = some o
  | [], h => by cases h
  | (m, y) :: L, h => by
    simp only [look] at h
    split at h
    · rename_i e
      obtain rfl := Option.some.inj h
      rw [List.filter_cons_of_pos (by simp [hg])]
      simp only [look]
      rw [if_pos e]
    · rename_i e
      have ih := look_stay hg h
      by_cases hm : gone y = true
      · rw [List.filter_cons_of_neg (by simp [hm])]; exact ih
      · rw [List.filter_cons_of_pos (by simpa using hm)]
        simp only [look]
        rw [if_neg e]; exact ih
theorem look_nil {n : Nat} : ∀ {L : HL}, look L n = none → look (L.filter fun x => !gone x.2) n = none
  | [], h => rfl
  | (m, y) :: L, h => by
    simp only [look] at h
    split at h
    · cases h
    · rename_i e
      have ih := look_nil h
      by_cases hm : gone y = true
      · rw [List.filter_cons_of_neg (by simp [hm])]; exact ih
      · rw [List.filter_cons_of_pos (by simpa using hm)]
        simp only [look]
        rw [if_neg e]; exact ih
def resSem (tmps : Array Value) : ResultVar → Sem Value
  | .tmp t => pure (tmps.getD t undef)
  | .cell x t => do loadVar t (← asAddr (tmps.getD x undef))
theorem results_sem (fn : Func) (tmps : Array Value) : results fn tmps = (do let vs ← fn.results.mapM (resSem tmps); pure (if h : vs.size = 1 then vs[0] else .tuple vs)) := by
  unfold results
  congr 1
section
variable {P : Program} {f : FuncId} {fn : Func} {pre : HL} {hints : List (Nat × Hint)} {want : Want}

theorem evLoad_run {t : TypeId} {n off : Nat} {H : HL} {e : Ev} {mine : Nat → Prop} {ρ : Names} {D : Still} {w : World} {y : Value} (he : evLoad P t (.ptr n off) H none = some e) (hs : Sat mine ρ D (look H) w) (r : Rep ρ D (.ptr n off) y) : ∃ v, (do loadVar t (← asAddr y)).run P w = .ok v w ∧ Rep ρ D e.out v := by
  cases r with
  | ptr _ _ b hb =>
    unfold evLoad at he
    split at he
    · rename_i n' off' heq ht
      cases heq
      split at he
      · rename_i cs te hl
        obtain ⟨c, h1, rfl⟩ := Option.map_eq_some_iff.1 he
        obtain ⟨vs, q1, q2, q3⟩ := holds_cells (hs.hold n _ hl) hb
        obtain ⟨v, h4, h5⟩ := q2.get off c h1
        exact ⟨v, by simp [asAddr, run_load_one ht (w := w) (ad := ⟨b, off, none⟩) ((cell_of_block q1).trans h4)], h5⟩
      · cases he
    · rename_i n' off' k heq ht
      cases heq
      split at he
      · rename_i cs te hl
        split at he
        · rename_i hk
          cases he
          obtain ⟨vs, q1, q2, q3⟩ := holds_cells (hs.hold n _ hl) hb
          have hl2 := q2.length
          refine ⟨_, ?_, .agg _ _ (reps_part q2 off k)⟩
          have := run_load_agg ht (w := w) (ad := ⟨b, off, none⟩) (cs := (vs.drop off).take k) (by simp; omega) (fun j v hj => by
            rw [add_plain, cell_of_block q1]
            rw [List.getElem?_take] at hj
            split at hj
            · rw [List.getElem?_drop] at hj; exact hj
            · cases hj)
          simp [asAddr, this]
        · cases he
      · cases he
    · rename_i heq _; cases heq
    · rename_i heq _; cases heq
    · rename_i heq _; cases heq
    · rename_i heq _; cases heq
    · cases he

theorem resOne_run {T : TL} {H : HL} {r : ResultVar} {av : AV} {mine : Nat → Prop} {ρ : Names} {D : Still} {w : World} {a : Act} {nt : Nat} (he : resOne P nt T H r = some av) (hs : Sat mine ρ D (look H) w) (ht : TRep nt ρ D (getT T) a) :
    ∃ v, (resSem a.tmps r).run P w = .ok v w ∧ Rep ρ D av v := by
  cases r with
  | tmp t =>
    simp only [resOne] at he
    split at he
    · rename_i h; cases he; exact ⟨_, rfl, ht.reps t h⟩
    · cases he
  | cell x t =>
    simp only [resOne] at he
    split at he
    · rename_i h
      split at he
      · rename_i n off hx
        obtain ⟨e, h1, rfl⟩ := Option.map_eq_some_iff.1 he
        have := ht.reps x h
        rw [hx] at this
        exact evLoad_run h1 hs this
      · cases he
    · cases he

theorem resAll_run {T : TL} {H : HL} {mine : Nat → Prop} {ρ : Names} {D : Still} {w : World} {a : Act} {nt : Nat} (hs : Sat mine ρ D (look H) w) (ht : TRep nt ρ D (getT T) a) : ∀ (rs : List ResultVar) (as : List AV), resAll P nt T H rs = some as →
    ∃ vs, (rs.mapM (resSem a.tmps)).run P w = .ok vs w ∧ Reps ρ D as vs
  | [], as, h => by simp only [resAll, Option.some.injEq] at h; subst h; exact ⟨[], rfl, .nil⟩
  | r :: rs, as, h => by
    simp only [resAll] at h
    split at h
    · rename_i x xs h1 h2
      cases h
      obtain ⟨v, q1, q2⟩ := resOne_run h1 hs ht
      obtain ⟨vs, q3, q4⟩ := resAll_run hs ht rs xs h2
      refine ⟨v :: vs, ?_, .cons q2 q4⟩
      rw [List.mapM_cons]
      simp only [Sem.run_bind, q1, Result.andThen_ok, q3, Sem.run_pure]
    · cases h

theorem owes_of {H : HL} {ρ0 ρ : Names} {D0 D : Still} {w0 w : World} {v : Value} (ht : toldOk pre want = true) (hc1 : ((endH pre want.ch).map fun x => look H x.1) = (endH pre want.ch).map fun x => some x.2) (hS : St (look pre) ρ0 D0 w0 (look H) ρ D w) (hrep : Rep ρ D want.res v) :
    Owes (look pre) want.pan want.res (postOf pre want.ch) ρ0 D0 w0 (endOf want.pan v) w := by
  simp only [toldOk, Bool.and_eq_true] at ht
  obtain ⟨⟨hq1, hq2⟩, hq3⟩ := ht
  have hpost : ∀ n o, postOf pre want.ch n = some o → look H n = some o := by
    intro n o h
    refine sameH_ok hc1 n o ?_
    rw [postOf_at] at h
    have happ : ∀ (A B : HL), look (A ++ B) n = match look A n with | some x => some x | none => look B n := by
      intro A B
      induction A with
      | nil => rfl
      | cons x A ih =>
        obtain ⟨m, y⟩ := x
        simp only [List.cons_append, look]
        split
        · rfl
        · exact ih
    unfold endH
    rw [happ]
    cases hl : look want.ch n with
    | some x =>
      rw [hl] at h
      obtain ⟨rfl, hg⟩ := endOb_some h
      rw [look_stay hg hl]
    | none => rw [hl] at h; rw [look_nil hl]; exact look_keep hl h
  -- names that nobody is told stay as they were
  have hns : ∀ n, ((look pre n).isSome || ((look want.ch n).bind endOb).isSome) = true → (if postOf pre want.ch n ≠ none ∧ look pre n = none then ρ n else ρ0 n) = ρ n := by
    intro n h
    by_cases c : look pre n = none
    · rw [if_pos]
      refine ⟨?_, c⟩
      rw [c] at h
      simp only [Option.isSome_none, Bool.false_or] at h
      obtain ⟨x, hx⟩ := Option.isSome_iff_exists.1 h
      obtain ⟨y, hy, hy2⟩ := Option.bind_eq_some_iff.1 hx
      rw [postOf_at, hy]
      simp [hy2]
    · rw [if_neg (fun h => c h.2)]
      exact (hS.step.names n c).symm
  have hto : ∀ n o, postOf pre want.ch n = some o → ((look pre n).isSome || ((look want.ch n).bind endOb).isSome) = true ∧ obTold (fun n => (look pre n).isSome || ((look want.ch n).bind endOb).isSome) o = true := by
    intro n o h
    rw [postOf_at] at h
    cases hl : look want.ch n with
    | some x =>
      rw [hl] at h
      have h0 : endOb x = some o := h
      obtain ⟨rfl, hg⟩ := endOb_some h0
      exact ⟨by simp [h0], List.all_eq_true.1 hq2 _ (look_mem hl)⟩
    | none =>
      rw [hl] at h
      exact ⟨by rw [show look pre n = some o from h]; rfl, List.all_eq_true.1 hq3 _ (look_mem h)⟩
  refine ⟨fun n => if postOf pre want.ch n ≠ none ∧ look pre n = none then ρ n else ρ0 n, D, _, rfl, ⟨hS.step.kp, fun n hn => if_neg hn, hS.step.le, hS.step.fresh, ⟨fun n o ho => ?_, fun n m b h1 h2 h3 h4 h5 => ?_, fun n b h1 h2 => ?_, hS.step.sat.still, hS.step.sat.glob⟩⟩, ?_⟩
  · obtain ⟨t1, t2⟩ := hto n o ho
    exact Holds.mono (Still.le_refl D) (hns n t1) (fun m hm => hns m (obTold_uses t2 m hm)) (fun _ _ => rfl) (hS.step.sat.hold n o (hpost n o ho))
  · obtain ⟨o1, ho1⟩ := Option.ne_none_iff_exists'.1 h1
    obtain ⟨o2, ho2⟩ := Option.ne_none_iff_exists'.1 h2
    simp only [hns n (hto n o1 ho1).1] at h4
    simp only [hns m (hto m o2 ho2).1] at h5
    exact hS.step.sat.inj n m b (by rw [hpost n o1 ho1]; simp) (by rw [hpost m o2 ho2]; simp) h3 h4 h5
  · obtain ⟨o1, ho1⟩ := Option.ne_none_iff_exists'.1 h1
    simp only [hns n (hto n o1 ho1).1] at h2
    exact hS.step.sat.dis n b (by rw [hpost n o1 ho1]; simp) h2
  · exact Rep.mono (Still.le_refl D) _ _ (fun n hn => hns n (told_uses _ hq1 n hn)) hrep
theorem finish_ok {T : TL} {H : HL} (hf : P.funcs[f]? = some fn) (he : finish P fn pre want T H = some (.ret want.res ((endH pre want.ch).map fun x => some x.2))) :
    Good P f fn.ntmps (look pre) want.pan want.res (postOf pre want.ch) [] T H ∧ ∀ k, Good P f fn.ntmps (look pre) want.pan want.res (postOf pre want.ch) (.code .ret :: k) T H := by
  unfold finish at he
  split at he
  · rename_i as hr
    split at he
    · rename_i hq
      obtain ⟨hpan, hq⟩ := hq
      simp only [Option.some.injEq, Fin.ret.injEq] at he
      obtain ⟨hc0, hc1⟩ := he
      have key : ∀ ρ0 D0 w0 ρ D a w, TRep fn.ntmps ρ D (getT T) a → St (look pre) ρ0 D0 w0 (look H) ρ D w → ∃ v, (results fn a.tmps).run P w = .ok v w ∧ Owes (look pre) want.pan want.res (postOf pre want.ch) ρ0 D0 w0 (.returned v) w := by
        intro ρ0 D0 w0 ρ D a w hT hS
        obtain ⟨vs, q1, q2⟩ := resAll_run hS.step.sat hT fn.results.toList as hr
        have hrun : (results fn a.tmps).run P w = .ok (if h : vs.length = 1 then vs[0] else .tuple vs.toArray) w := by
          rw [results_sem, Array.mapM_eq_mapM_toList]
          simp only [Sem.run_bind, Sem.run_map, q1, Result.andThen_ok, Sem.run_pure]
          by_cases hl : vs.length = 1
          · simp [hl]
          · simp [hl]
        refine ⟨_, hrun, ?_⟩
        have hrep : Rep ρ D want.res (if h : vs.length = 1 then vs[0] else .tuple vs.toArray) := by
          rw [← hc0]
          cases q2 with
          | nil => exact .tup _ _ .nil
          | cons r1 r2 =>
            cases r2 with
            | nil => exact r1
            | cons r2 r3 => exact .tup _ _ (.cons r1 (.cons r2 r3))
        have := owes_of hq hc1 hS hrep
        rw [hpan] at this ⊢
        exact this
      refine ⟨fun ρ0 D0 w0 ρ D a w hT hS => ?_, fun k ρ0 D0 w0 ρ D a w hT hS => ?_⟩
      · obtain ⟨v, h1, h2⟩ := key ρ0 D0 w0 ρ D a w hT hS
        exact goes_end hf hT.defers h1 h2
      · obtain ⟨v, h1, h2⟩ := key ρ0 D0 w0 ρ D a w hT hS
        exact goes_ret hf hT.defers h1 h2
    · cases he
  · cases he

def TRep2 (nt : Nat) (T : TL) (a : Act) : Prop := ∃ ρ D, TRep nt ρ D (getT T) a
theorem Good.of_goes {p0 : Hp} {pan : Bool} {res : AV} {post : Hp} {nt : Nat} {todo todo' : List Item} {T : TL} {H : HL} (g : Good P f nt p0 pan res post todo' T H) (h : ∀ R a w, TRep2 nt T a → Goes P f R todo' a w → Goes P f R todo a w) : Good P f nt p0 pan res post todo T H :=
  fun ρ0 D0 w0 ρ D a w hT hS => h _ a w ⟨ρ, D, hT⟩ (g ρ0 D0 w0 ρ D a w hT hS)

/-- What the road's end must be. -/
def finOk (P : Program) (f : FuncId) (fn : Func) (pre : HL) (want : Want) : Fin → Prop
  | .ret res obs => res = want.res ∧ obs = (endH pre want.ch).map fun x => some x.2
  | .loop todo as obs => as = want.T.map (·.2) ∧ obs = want.H.map (fun x => some x.2) ∧ Good P f fn.ntmps (look pre) want.pan want.res (postOf pre want.ch) todo want.T want.H

theorem look_over {H : HL} {e : Ev} (hfr : ∀ n, (e.upd.map (·.1)).contains n = true → look (preOf H e.rd) n = none → look H n = none) : over (look H) (look (preOf H e.rd)) (updL (look (preOf H e.rd)) e.upd) = look (updHL H e.upd) := by
  funext n
  rw [look_updHL]
  unfold over updL
  have hm := lookU_mem (n := n) e.upd
  cases hl : lookU e.upd n with
  | some x =>
    rw [hl] at hm
    cases x with
    | some o => rfl
    | none =>
      simp only
      cases hp : look (preOf H e.rd) n with
      | some o => rfl
      | none => exact hfr n hm hp
  | none =>
    simp only
    cases hp : look (preOf H e.rd) n with
    | none => rfl
    | some o =>
      rw [look_preOf] at hp
      split at hp
      · exact hp.symm
      · cases hp

theorem fresh_of {p0 : HL} {T : TL} {H : HL} {e : Ev} (h : freshOk p0 T H e = true) : ∀ n, (e.upd.map (·.1)).contains n = true → look (preOf H e.rd) n = none → look H n = none ∧ look p0 n = none ∧ (∀ t, (getT T t).uses n = false) ∧ ∀ m o, look H m = some o → o.uses n = false := by
  intro n h1 h2
  have h3 := List.all_eq_true.1 h n (by simpa using h1)
  rw [h2] at h3
  simp only [Option.isSome_none, Bool.false_or, Bool.and_eq_true] at h3
  obtain ⟨⟨⟨z1, z2⟩, z3⟩, z4⟩ := h3
  exact ⟨by simpa using z1, by simpa using z2, getT_all z3, all_uses z4⟩

/-- What a step leaves, in a state that is known. -/
theorem step_next {nt : FT} {p0 T} {H : HL} {e : Ev} {d : Option Nat} {ρ0 ρ ρ' : Names} {D0 D D' : Still} {w0 w w' : World} {a : Act} {v : Value} (hfr : freshOk p0 T H e = true) (hd : ∀ t, d = some t → t < nt)
    (hT : TRep nt ρ D (getT T) a) (hS : St (look p0) ρ0 D0 w0 (look H) ρ D w) (hst : Step (fun n => updL (look (preOf H e.rd)) e.upd n ≠ none ∧ look (preOf H e.rd) n = none) (look (preOf H e.rd)) (updL (look (preOf H e.rd)) e.upd) ρ D w ρ' D' w') (hv : Rep ρ' D' e.out v) :
    TRep nt ρ' D' (getT (putT T d e.out)) (a.put d v) ∧ St (look p0) ρ0 D0 w0 (look (updHL H e.upd)) ρ' D' w' := by
  have hfresh := fresh_of hfr
  have hchg : ∀ n, updL (look (preOf H e.rd)) e.upd n ≠ none → look (preOf H e.rd) n = none → (e.upd.map (·.1)).contains n = true := by
    intro n h1 h2
    rw [lookU_mem]
    unfold updL at h1
    cases hl : lookU e.upd n with
    | some x => rfl
    | none => rw [hl] at h1; exact absurd h2 h1
  constructor
  · refine hT.put hd hv (fun t => ?_) hst.le fun t _ n hu => hst.names n ?_
    · cases d with
      | none => rfl
      | some k =>
        simp only [putT, getT, Option.some.injEq]
    · rintro ⟨h1, h2⟩
      have := (hfresh n (hchg n h1 h2) h2).2.2.1 t
      rw [hu] at this
      cases this
  · rw [← look_over fun n h1 h2 => (hfresh n h1 h2).1]
    refine hS.next (fun n hn => ?_) (fun n h1 h2 => ?_) hst
    · rw [look_preOf] at hn
      split at hn
      · exact hn
      · exact absurd rfl hn
    · obtain ⟨b1, b2, _, b4⟩ := hfresh n (hchg n h1 h2) h2
      exact ⟨b1, b2, fun m o hm _ => b4 m o hm⟩

theorem wanted_of {nt : FT} {ops : Array Oper} {o : Oper} {T : TL} {ρ : Names} {D : Still} {a : Act} {go : Bool} (hw : wantOf ops o T = some go) (hlk : ∀ t, t ∈ o.looksAt ops → t < nt) (hT : TRep nt ρ D (getT T) a) : Region.wanted o (yielded ops a.tmps) = go := by
  unfold wantOf at hw
  unfold Region.wanted
  cases hg : o.guard with
  | none => rw [hg] at hw; exact Option.some.inj hw
  | some gw =>
    obtain ⟨g, want⟩ := gw
    rw [hg] at hw
    simp only at hw ⊢
    split at hw
    · rename_i d hd
      have hdl : d ∈ o.looksAt ops := List.mem_append_right _ (by rw [hg]; simp [hd])
      have hdt := hlk d hdl
      have hr := hT.reps d hdt
      unfold yielded
      rw [hd]
      simp only [Option.bind_some]
      obtain ⟨y, hy⟩ : ∃ y, a.tmps[d]? = some y := ⟨_, Array.getElem?_eq_getElem (show d < a.tmps.size by rw [hT.size]; exact hdt)⟩
      rw [Array.getD_eq_getD_getElem?, hy] at hr
      rw [hy]
      simp only [Option.getD_some] at hr
      split at hw
      · rename_i b hb
        rw [hb] at hr
        cases hr
        rw [← Option.some.inj hw]
        cases b <;> cases want <;> rfl
      · rename_i z hb
        split at hw
        · rename_i hz
          rw [hb] at hr
          cases hr
          rw [← Option.some.inj hw]
          rfl
        · cases hw
      · cases hw
    · cases hw

theorem ops_reps {nt : FT} {ops : Array Oper} {o : Oper} {T : TL} {ρ : Names} {D : Still} {a : Act} (hlk : ∀ t, t ∈ o.looksAt ops → t < nt) (hT : TRep nt ρ D (getT T) a) : ∀ (l : List Operand), (∀ x ∈ l, x ∈ o.op.operands) → Reps ρ D (l.map (evA T)) (l.map a.eval)
  | [], _ => .nil
  | x :: l, h => by
    refine .cons (hT.eval fun t e => hlk t ?_) (ops_reps hlk hT l fun y hy => h y (List.mem_cons_of_mem _ hy))
    have hx := h x (List.mem_cons_self ..)
    subst e
    exact List.mem_append_left _ (List.mem_filterMap.2 ⟨.tmp t, by simpa using hx, rfl⟩)

theorem sat_pre {mine : Nat → Prop} {ρ : Names} {D : Still} {H : HL} {w : World} {rd : List Nat} (h : Sat mine ρ D (look H) w) : Sat (fun _ => True) ρ D (look (preOf H rd)) w := by
  refine h.part fun n o hn => ?_
  rw [look_preOf] at hn
  split at hn
  · exact hn
  · cases hn

theorem evSeq_ok {nt : FT} {ops : Array Oper} {hs : Nat → Option Hint} {ρ0 : Names} {D0 : Still} {w0 : World} {GN : Act → World → Prop} {GP : Act → Value → World → Prop} : ∀ (todo : List Oper) (j : Nat) (T : TL) (H : HL) (C : List Prop) (fin : SeqEnd), evSeq P nt pre ops hs todo j T H = some (C, fin) → All C →
    (∀ (i : Nat) (o : Oper), todo[i]? = some o → ops[j + i]? = some o) →
    (match fin with
      | .norm T' H' => ∀ ρ D a w, TRep nt ρ D (getT T') a → St (look pre) ρ0 D0 w0 (look H') ρ D w → GN a w
      | .pan T' pv H' => ∀ ρ D a w v, TRep nt ρ D (getT T') a → St (look pre) ρ0 D0 w0 (look H') ρ D w → Rep ρ D pv v → GP a v w) →
    ∀ ρ D a w, TRep nt ρ D (getT T) a → St (look pre) ρ0 D0 w0 (look H) ρ D w →
      wpOps P ops (fun e a' w' => (e = .normal ∧ GN a' w') ∨ ∃ v, e = .panic [{ v := v, recovered := false }] ∧ GP a' v w') (List.range' j todo.length) a w
  | [], j, T, H, C, fin, he, hc, ho, hf, ρ, D, a, w, hT, hS => by
    simp only [evSeq, Option.some.injEq, Prod.mk.injEq] at he
    obtain ⟨rfl, rfl⟩ := he
    exact .inl ⟨rfl, hf ρ D a w hT hS⟩
  | o :: os, j, T, H, C, fin, he, hc, ho, hf, ρ, D, a, w, hT, hS => by
    have hoj : ops[j]? = some o := by simpa using ho 0 o rfl
    simp only [evSeq] at he
    split at he
    · rename_i hb
      have hlk : ∀ t, t ∈ o.looksAt ops → t < nt := fun t ht => of_decide_eq_true (List.all_eq_true.1 hb.1 t ht)
      have hdst : ∀ t, o.dst = some t → t < nt := fun t ht => by have := hb.2; rw [ht] at this; exact of_decide_eq_true this
      split at he
      · cases he
      · rename_i go hgo
        have hwant := wanted_of hgo hlk hT
        rw [List.length_cons, List.range'_succ, wpOps_cons]
        unfold wpOp
        rw [hoj]
        simp only
        rw [hwant]
        split at he
        · -- a panic
          rename_i C' pv H' hpo
          cases he
          cases go with
          | false => simp at hpo
          | true =>
            simp only [if_true] at hpo
            rw [if_pos rfl]
            left
            unfold panOp at hpo
            split at hpo
            · rename_i _ _ x hop
              split at hpo
              · rename_i t' a' hev
                cases hpo
                have r := ops_reps hlk hT [x] (fun y hy => by simp at hy; subst hy; rw [hop]; simp [Op.operands])
                have r1 := reps_one r
                rw [hev] at r1
                have e1 : (execOp a.eval o).run P w = .halt (.panic (a.eval x)) w := by
                  generalize hy : a.eval x = y at r1
                  cases r1
                  simp [execOp, hop, hy, Instr.panic]
                unfold Oper.wp
                rw [e1, Oper.upon_panic]
                exact .inr ⟨_, rfl, hf ρ D a w _ hT hS r1⟩
              · cases hpo
            · rename_i c rd post pv' hop _
              split at hpo
              · rename_i g hcal
                split at hpo
                · rename_i f' a1 a2 htg
                  split at hpo
                  · rename_i hq
                    cases hpo
                    have hk := hc.one
                    obtain ⟨callee, xs, ts⟩ := c
                    simp only at hcal hk
                    subst hcal
                    have r := ops_reps hlk hT (g :: xs.toList) (fun y hy => by rw [hop]; simpa [Op.operands, Call.operands] using hy)
                    cases r with
                    | cons r1 r2 =>
                      obtain ⟨c', d', hy, hc1, hd1⟩ := target_rep htg r1
                      have e1 := run_call (P := P) (w := w) hop hy hq.1
                      unfold Oper.wp
                      rw [e1, Oper.upon_enter]
                      have := hk ρ D w (c'.toList ++ xs.toList.map a.eval ++ d'.toList) ((hc1.append r2).append hd1) (sat_pre hS.step.sat)
                      rw [show c' ++ xs.map a.eval ++ d' = (c'.toList ++ xs.toList.map a.eval ++ d'.toList).toArray by simp]
                      refine this.mono fun e w' h => ?_
                      obtain ⟨ρ', D', v, rfl, h1, h2⟩ := h
                      obtain ⟨q1, q2⟩ := step_next (d := none) (e := ⟨pv, rd, post.map fun x => (x.1, some x.2), []⟩) hq.2 (fun t h => by cases h) hT hS h1 h2
                      exact .inr ⟨v, rfl, hf ρ' D' a w' v q1 q2 h2⟩
                  · cases hpo
                · cases hpo
              · cases hpo
            · cases hpo
        · split at he
          · cases he
          · rename_i e hev
            split at he
            · rename_i hfr
              obtain ⟨⟨C2, fin2⟩, h1, h2⟩ := Option.map_eq_some_iff.1 he
              simp only [Prod.mk.injEq] at h2
              obtain ⟨rfl, rfl⟩ := h2
              obtain ⟨hc1, hc2⟩ := hc.append
              have next := evSeq_ok os (j + 1) _ _ C2 fin2 h1 hc2 (fun i o' h => by rw [Nat.add_assoc, Nat.add_comm 1 i]; exact ho (i + 1) o' (by simpa using h)) hf
              cases go with
              | false =>
                rw [if_neg (by simp)]
                cases hev
                obtain ⟨q1, q2⟩ := step_next (v := undef) hfr hdst hT hS (Step.refl (sat_pre hS.step.sat)) (.v _)
                exact next _ _ _ _ q1 q2
              | true =>
                rw [if_pos rfl]
                simp only [if_true] at hev
                refine .inl (evOp_ok hev hc1 ρ D w a (ops_reps hlk hT _ fun x hx => by simpa using hx) (sat_pre hS.step.sat) _ _ fun v w' ρ' D' hst hv => ?_)
                obtain ⟨q1, q2⟩ := step_next hfr hdst hT hS hst hv
                exact next _ _ _ _ q1 q2
            · cases he
    · cases he
theorem fin_end {T : TL} {H : HL} {fin : Fin} (hf : P.funcs[f]? = some fn) (he : finish P fn pre want T H = some fin) (hg : finOk P f fn pre want fin) :
    Good P f fn.ntmps (look pre) want.pan want.res (postOf pre want.ch) [] T H ∧ ∀ k, Good P f fn.ntmps (look pre) want.pan want.res (postOf pre want.ch) (.code .ret :: k) T H := by
  cases fin with
  | ret res obs => obtain ⟨rfl, rfl⟩ := hg; exact finish_ok hf he
  | loop todo as obs =>
    unfold finish at he
    split at he
    · split at he <;> cases he
    · cases he
theorem run_ok (hf : P.funcs[f]? = some fn) (hm : P.follows .mixedOrders = true) : ∀ (n : Nat) (todo : List Item) (T : TL) (H : HL) (C : List Prop) (fin : Fin), run P fn pre hints want n todo T H = some (C, fin) → All C →
    finOk P f fn pre want fin → Good P f fn.ntmps (look pre) want.pan want.res (postOf pre want.ch) todo T H := by
  intro n
  induction n with
  | zero => intro todo T H C fin he; cases he
  | succ n ih =>
    intro todo T H C fin he hc hg
    simp only [run] at he
    split at he
    · cases he
      obtain ⟨h1, h2, h3⟩ := hg
      exact h3.weak (fun t _ => sameT_ok h1 t) (sameH_ok h2)
    rename_i hstop
    clear hstop
    split at he
    · obtain ⟨fin', h1, h2⟩ := Option.map_eq_some_iff.1 he
      cases h2
      exact (fin_end hf h1 hg).1
    · obtain ⟨fin', h1, h2⟩ := Option.map_eq_some_iff.1 he
      cases h2
      exact (fin_end hf h1 hg).2 _
    · exact (ih _ _ _ _ _ he hc hg).of_goes fun R a w _ g => goes_skip g
    · exact (ih _ _ _ _ _ he hc hg).of_goes fun R a w _ g => goes_seq g
    · rename_i c x y k
      have key : ∀ t : Bool, evA T c = .v (.bool t) → (Good P f fn.ntmps (look pre) want.pan want.res (postOf pre want.ch) (.code (if t then x else y) :: k) T H) → (∀ z, c = .tmp z → z < fn.ntmps) → Good P f fn.ntmps (look pre) want.pan want.res (postOf pre want.ch) (.code (.cond c x y) :: k) T H := by
        intro t ht g hz
        refine g.of_goes fun R a w ⟨ρ, D, hT⟩ g => goes_cond ?_ g
        have r := hT.eval hz
        have ht' : evT (getT T) c = .v (.bool t) := ht
        rw [ht'] at r
        generalize a.eval c = v at r
        cases r
        rfl
      split at he
      · rename_i hcv
        split at he
        · rename_i hz
          exact key true hcv (ih _ _ _ _ _ he hc hg) (fun z e => by subst e; simpa [condOk] using hz)
        · cases he
      · rename_i hcv
        split at he
        · rename_i hz
          exact key false hcv (ih _ _ _ _ _ he hc hg) (fun z e => by subst e; simpa [condOk] using hz)
        · cases he
      · cases he
    · exact (ih _ _ _ _ _ he hc hg).of_goes fun R a w _ g => goes_block g
    · exact (ih _ _ _ _ _ he hc hg).of_goes fun R a w _ g => goes_inBlock g
    · split at he
      · rename_i k' hk
        exact (ih _ _ _ _ _ he hc hg).of_goes fun R a w _ g => goes_exit hk g
      · cases he
    · cases he
      obtain ⟨h1, h2, h3⟩ := hg
      exact (h3.weak (fun t _ => sameT_ok h1 t) (sameH_ok h2)).of_goes fun R a w _ g => goes_loop g
    · cases he
      obtain ⟨h1, h2, h3⟩ := hg
      exact (h3.weak (fun t _ => sameT_ok h1 t) (sameH_ok h2)).of_goes fun R a w _ g => goes_inLoop g
    · split at he
      · rename_i hpan
        split at he
        · rename_i C' T' H' hev
          obtain ⟨⟨C2, fin2⟩, h1, h2⟩ := Option.map_eq_some_iff.1 he
          simp only [Prod.mk.injEq] at h2
          obtain ⟨rfl, rfl⟩ := h2
          obtain ⟨hc1, hc2⟩ := hc.append
          have g := ih _ _ _ _ _ h1 hc2 hg
          intro ρ0 D0 w0 ρ D a w hT hS
          refine goes_pan (by rw [hf]; rfl) (wp_region ?_)
          rw [List.range_eq_range', ← Array.length_toList]
          exact evSeq_ok (GN := fun a w => Goes P f (Owes (look pre) want.pan want.res (postOf pre want.ch) ρ0 D0 w0) _ a w) (GP := fun a' v w' => a'.defers = [] ∧ Owes (look pre) want.pan want.res (postOf pre want.ch) ρ0 D0 w0 (.panicked [{ v := v, recovered := false }]) w') (nt := ⟨fn.ntmps, []⟩) _ _ _ _ _ _ hev hc1 (fun i o h => by simpa using h) (fun ρ D a w hT hS => g ρ0 D0 w0 ρ D a w hT hS) ρ D a w hT hS
        · rename_i C' pv H' hev
          split at he
          · rename_i htold
            cases he
            obtain ⟨hg1, hg2⟩ := hg
            intro ρ0 D0 w0 ρ D a w hT hS
            refine goes_pan (by rw [hf]; rfl) (wp_region ?_)
            rw [List.range_eq_range', ← Array.length_toList]
            refine evSeq_ok (GN := fun a w => Goes P f (Owes (look pre) want.pan want.res (postOf pre want.ch) ρ0 D0 w0) _ a w) (GP := fun a' v w' => a'.defers = [] ∧ Owes (look pre) want.pan want.res (postOf pre want.ch) ρ0 D0 w0 (.panicked [{ v := v, recovered := false }]) w') (nt := ⟨fn.ntmps, []⟩) _ _ _ _ _ _ hev hc (fun i o h => by simpa using h) (fun ρ D a w v hT hS hv => ⟨hT.defers, ?_⟩) ρ D a w hT hS
            have := owes_of htold hg2 hS (by rw [← hg1]; exact hv)
            rw [hpan] at this ⊢
            exact this
          · cases he
        · cases he
      · split at he
        · rename_i T' H' C' hev
          obtain ⟨⟨C2, fin2⟩, h1, h2⟩ := Option.map_eq_some_iff.1 he
          simp only [Prod.mk.injEq] at h2
          obtain ⟨rfl, rfl⟩ := h2
          obtain ⟨hc1, hc2⟩ := hc.append
          exact evRegion_ok hm hev hc1 (ih _ _ _ _ _ h1 hc2 hg)
        · cases he
    · split at he
      · rename_i T' H' C' hev
        obtain ⟨⟨C2, fin2⟩, h1, h2⟩ := Option.map_eq_some_iff.1 he
        simp only [Prod.mk.injEq] at h2
        obtain ⟨rfl, rfl⟩ := h2
        obtain ⟨hc1, hc2⟩ := hc.append
        exact evRegion_ok hm hev hc1 (ih _ _ _ _ _ h1 hc2 hg)
      · cases he
    · cases he

/-- A function without loops, or its way to the end. -/
theorem ok_run {c : Code} {args : List AV} {res : AV} {ch : HL} {C : List Prop} (hf : P.funcs[f]? = some fn) (hb : fn.body = some c) (hn : Nat.ble args.length fn.ntmps = true) (hm : P.follows .mixedOrders = true) (n : Nat) (hints : List (Nat × Hint))
    (hc : All C) (he : run P fn pre hints ⟨[], [], res, ch, false⟩ n [.code c] (args.zipIdx.map fun x => (x.2, x.1)) pre = some (C, .ret res ((endH pre ch).map fun x => some x.2))) : Ok P f args (look pre) res (postOf pre ch) :=
  ok_of_good hf hb (Nat.le_of_ble_eq_true hn) (run_ok hf hm n _ _ _ _ _ he hc ⟨rfl, rfl⟩)
/-- A function's way to a loop's head. -/
theorem ok_head {c : Code} {args : List AV} {res : AV} {ch : HL} {C : List Prop} {T : TL} {H : HL} {todo : List Item} (hf : P.funcs[f]? = some fn) (hb : fn.body = some c) (hn : Nat.ble args.length fn.ntmps = true) (hm : P.follows .mixedOrders = true) (n : Nat) (hints : List (Nat × Hint))
    (hc : All C) (he : run P fn pre hints ⟨T, H, res, ch, false⟩ n [.code c] (args.zipIdx.map fun x => (x.2, x.1)) pre = some (C, .loop todo (T.map (·.2)) (H.map fun x => some x.2))) (hg : Good P f fn.ntmps (look pre) false res (postOf pre ch) todo T H) : Ok P f args (look pre) res (postOf pre ch) :=
  ok_of_good hf hb (Nat.le_of_ble_eq_true hn) (run_ok (want := ⟨T, H, res, ch, false⟩) hf hm n _ _ _ _ _ he hc ⟨rfl, rfl, hg⟩)
/-- From a place on to the end. -/
theorem good_run {todo : List Item} {T0 : TL} {H0 : HL} {res : AV} {ch : HL} {C : List Prop} (hf : P.funcs[f]? = some fn) (hm : P.follows .mixedOrders = true) (n : Nat) (hints : List (Nat × Hint))
    (hc : All C) (he : run P fn pre hints ⟨[], [], res, ch, false⟩ n todo T0 H0 = some (C, .ret res ((endH pre ch).map fun x => some x.2))) : Good P f fn.ntmps (look pre) false res (postOf pre ch) todo T0 H0 :=
  run_ok hf hm n _ _ _ _ _ he hc ⟨rfl, rfl⟩
/-- From a place on to a loop's head. -/
theorem good_head {todo todo' : List Item} {T0 T : TL} {H0 H : HL} {res : AV} {ch : HL} {C : List Prop} (hf : P.funcs[f]? = some fn) (hm : P.follows .mixedOrders = true) (n : Nat) (hints : List (Nat × Hint))
    (hc : All C) (he : run P fn pre hints ⟨T, H, res, ch, false⟩ n todo T0 H0 = some (C, .loop todo' (T.map (·.2)) (H.map fun x => some x.2))) (hg : Good P f fn.ntmps (look pre) false res (postOf pre ch) todo' T H) : Good P f fn.ntmps (look pre) false res (postOf pre ch) todo T0 H0 :=
  run_ok (want := ⟨T, H, res, ch, false⟩) hf hm n _ _ _ _ _ he hc ⟨rfl, rfl, hg⟩
/-- A function without loops, or its way to the end. -/
theorem okP_run {c : Code} {args : List AV} {res : AV} {ch : HL} {C : List Prop} (hf : P.funcs[f]? = some fn) (hb : fn.body = some c) (hn : Nat.ble args.length fn.ntmps = true) (hm : P.follows .mixedOrders = true) (n : Nat) (hints : List (Nat × Hint))
    (hc : All C) (he : run P fn pre hints ⟨[], [], res, ch, true⟩ n [.code c] (args.zipIdx.map fun x => (x.2, x.1)) pre = some (C, .ret res ((endH pre ch).map fun x => some x.2))) : OkP P f args (look pre) res (postOf pre ch) :=
  okP_of_good hf hb (Nat.le_of_ble_eq_true hn) (run_ok hf hm n _ _ _ _ _ he hc ⟨rfl, rfl⟩)
/-- A function's way to a loop's head. -/
theorem okP_head {c : Code} {args : List AV} {res : AV} {ch : HL} {C : List Prop} {T : TL} {H : HL} {todo : List Item} (hf : P.funcs[f]? = some fn) (hb : fn.body = some c) (hn : Nat.ble args.length fn.ntmps = true) (hm : P.follows .mixedOrders = true) (n : Nat) (hints : List (Nat × Hint))
    (hc : All C) (he : run P fn pre hints ⟨T, H, res, ch, true⟩ n [.code c] (args.zipIdx.map fun x => (x.2, x.1)) pre = some (C, .loop todo (T.map (·.2)) (H.map fun x => some x.2))) (hg : Good P f fn.ntmps (look pre) true res (postOf pre ch) todo T H) : OkP P f args (look pre) res (postOf pre ch) :=
  okP_of_good hf hb (Nat.le_of_ble_eq_true hn) (run_ok (want := ⟨T, H, res, ch, true⟩) hf hm n _ _ _ _ _ he hc ⟨rfl, rfl, hg⟩)
/-- From a place on to the end. -/
theorem goodP_run {todo : List Item} {T0 : TL} {H0 : HL} {res : AV} {ch : HL} {C : List Prop} (hf : P.funcs[f]? = some fn) (hm : P.follows .mixedOrders = true) (n : Nat) (hints : List (Nat × Hint))
    (hc : All C) (he : run P fn pre hints ⟨[], [], res, ch, true⟩ n todo T0 H0 = some (C, .ret res ((endH pre ch).map fun x => some x.2))) : Good P f fn.ntmps (look pre) true res (postOf pre ch) todo T0 H0 :=
  run_ok hf hm n _ _ _ _ _ he hc ⟨rfl, rfl⟩
/-- From a place on to a loop's head. -/
theorem goodP_head {todo todo' : List Item} {T0 T : TL} {H0 H : HL} {res : AV} {ch : HL} {C : List Prop} (hf : P.funcs[f]? = some fn) (hm : P.follows .mixedOrders = true) (n : Nat) (hints : List (Nat × Hint))
    (hc : All C) (he : run P fn pre hints ⟨T, H, res, ch, true⟩ n todo T0 H0 = some (C, .loop todo' (T.map (·.2)) (H.map fun x => some x.2))) (hg : Good P f fn.ntmps (look pre) true res (postOf pre ch) todo' T H) : Good P f fn.ntmps (look pre) true res (postOf pre ch) todo T0 H0 :=
  run_ok (want := ⟨T, H, res, ch, true⟩) hf hm n _ _ _ _ _ he hc ⟨rfl, rfl, hg⟩
end
/-- The loops' heads of a text, in order. -/
def heads : Code → List Item → List (List Item)
  | .seq a b, k => heads a (.code b :: k) ++ heads b k
  | .block id c, k => heads c (.inBlock id :: k)
  | .cond _ a b, k => heads a k ++ heads b k
  | .loop c, k => (.code c :: .inLoop c :: k) :: heads c (.inLoop c :: k)
  | _, _ => []
def headAt (fn : Func) (i : Nat) : List Item := match fn.body with
  | some c => (heads c []).getD i []
  | none => []
/-- The places ahead of a region. -/
def cuts (r : Nat) : Code → List Item → List (List Item)
  | .region id ops draw, k => if id = r then [.code (.region id ops draw) :: k] else []
  | .seq a b, k => cuts r a (.code b :: k) ++ cuts r b k
  | .block id c, k => cuts r c (.inBlock id :: k)
  | .cond _ a b, k => cuts r a k ++ cuts r b k
  | .loop c, k => cuts r c (.inLoop c :: k)
  | _, _ => []
def cutAt (fn : Func) (r : Nat) : List Item := match fn.body with
  | some c => (cuts r c []).getD 0 []
  | none => []
theorem all0 : All [] := .nil
theorem all1 {a : Prop} (h : a) : All [a] := .cons h .nil
theorem all2 {a b : Prop} (h : a) (h2 : b) : All [a, b] := .cons h (all1 h2)
theorem all3 {a b c : Prop} (h : a) (h2 : b) (h3 : c) : All [a, b, c] := .cons h (all2 h2 h3)
theorem all4 {a b c d : Prop} (h : a) (h2 : b) (h3 : c) (h4 : d) : All [a, b, c, d] := .cons h (all3 h2 h3 h4)
theorem all5 {a b c d e : Prop} (h : a) (h2 : b) (h3 : c) (h4 : d) (h5 : e) : All [a, b, c, d, e] := .cons h (all4 h2 h3 h4 h5)
theorem all6 {a b c d e f : Prop} (h : a) (h2 : b) (h3 : c) (h4 : d) (h5 : e) (h6 : f) : All [a, b, c, d, e, f] := .cons h (all5 h2 h3 h4 h5 h6)
theorem all7 {a b c d e f g : Prop} (h : a) (h2 : b) (h3 : c) (h4 : d) (h5 : e) (h6 : f) (h7 : g) : All [a, b, c, d, e, f, g] := .cons h (all6 h2 h3 h4 h5 h6 h7)
theorem all8 {a b c d e f g i : Prop} (h : a) (h2 : b) (h3 : c) (h4 : d) (h5 : e) (h6 : f) (h7 : g) (h8 : i) : All [a, b, c, d, e, f, g, i] := .cons h (all7 h2 h3 h4 h5 h6 h7 h8)
end Go.Proofs.YtahobmjchppciaaDoor.Sx
