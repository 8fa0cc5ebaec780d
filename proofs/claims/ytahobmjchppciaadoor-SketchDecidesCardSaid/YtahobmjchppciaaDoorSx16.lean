/- Rows of answers and arguments; lists as rows. -/
import Derived.Test.YtahobmjchppciaaDoorSx13
import Derived.Laws.BytesArg
namespace Go.Proofs.YtahobmjchppciaaDoor.Sx
open Go Go.RowKit
set_option linter.unusedVariables false
set_option linter.unusedSimpArgs false

/-- The only new row of an answer is only read. -/
theorem hpSub_one {n : Nat} {r : AV} {o : Ob} : hpSub n r (updL (look []) [(n, some o)]) = look [] := by
  funext m
  unfold hpSub updL
  split
  · rfl
  · rename_i h
    simp only [lookU, look]
    rw [if_neg (Ne.symm h)]; rfl
theorem Ok.freeze1 {P : Program} {f : FuncId} {args : List AV} {res res' : AV} {n sz k : Nat} {e : TypeId} {rows : List (List Value)} (h : Ok P f args (look []) res (updL (look []) [(n, some (.row sz e k rows))])) (hr : subA n (.ro sz k rows) res = res') (hu : res'.uses n = false) :
    Ok P f args (look []) res' (updL (look []) []) := by
  subst hr
  have := h.freeze (n := n) (sz := sz) (k := k) (e := e) (rows := rows) (by unfold updL; simp [lookU]) rfl hu (by rw [hpSub_one]; intro m o h; cases h)
  rwa [hpSub_one] at this
theorem Good.freeze1 {P : Program} {f : FuncId} {nt : Nat} {pan : Bool} {todo : List Item} {T : TL} {H : HL} {res res' : AV} {n sz k : Nat} {e : TypeId} {rows : List (List Value)} (h : Good P f nt (look []) pan res (updL (look []) [(n, some (.row sz e k rows))]) todo T H) (hr : subA n (.ro sz k rows) res = res') (hu : res'.uses n = false) :
    Good P f nt (look []) pan res' (updL (look []) []) todo T H := by
  subst hr
  have := h.freezeEnd (n := n) (sz := sz) (k := k) (e := e) (rows := rows) (by unfold updL; simp [lookU]) rfl hu (by rw [hpSub_one]; intro m o h; cases h)
  rwa [hpSub_one] at this
/-- A row is handed over, to be only read. -/
theorem hpSub_look {n : Nat} {r : AV} {o : Ob} : hpSub n r (look [(n, o)]) = look [] := by
  funext m
  unfold hpSub
  split
  · rfl
  · rename_i h
    simp only [look]
    rw [if_neg (Ne.symm h)]; rfl
theorem drop_look {n : Nat} {o : Ob} (ch : List (Nat × Option Ob)) : updL (look [(n, o)]) ((n, none) :: ch) = fun m => if m = n then none else updL (look []) ch m := by
  funext m
  unfold updL
  simp only [lookU, look]
  by_cases c : n = m
  · simp [c]
  · rw [if_neg c, if_neg (Ne.symm c), if_neg c]
theorem Ok.eat1 {P : Program} {f : FuncId} {args args' : List AV} {res : AV} {n sz k : Nat} {e : TypeId} {rows : List (List Value)} (h : Ok P f args' (look []) res (updL (look []) [])) (ha : subL n (.ro sz k rows) args = args') :
    Ok P f args (look [(n, .row sz e k rows)]) res (updL (look [(n, .row sz e k rows)]) [(n, none)]) := by
  subst ha
  have e1 : updL (look [(n, Ob.row sz e k rows)]) [(n, none)] = updL (look []) [] := by
    rw [drop_look]; funext m; split <;> rfl
  rw [e1]
  refine Ok.eat (n := n) (sz := sz) (k := k) (e := e) (rows := rows) (by simp [look]) rfl ?_
  rw [hpSub_look]; exact h
theorem OkP.eat1 {P : Program} {f : FuncId} {args args' : List AV} {res : AV} {n sz k : Nat} {e : TypeId} {rows : List (List Value)} (h : OkP P f args' (look []) res (updL (look []) [])) (ha : subL n (.ro sz k rows) args = args') :
    OkP P f args (look [(n, .row sz e k rows)]) res (updL (look [(n, .row sz e k rows)]) [(n, none)]) := by
  subst ha
  have e1 : updL (look [(n, Ob.row sz e k rows)]) [(n, none)] = updL (look []) [] := by
    rw [drop_look]; funext m; split <;> rfl
  rw [e1]
  refine OkP.eat (n := n) (sz := sz) (k := k) (e := e) (rows := rows) (by simp [look]) rfl ?_
  rw [hpSub_look]; exact h

/-- Lists as rows. -/
theorem bneT {a b : Int} (h : (a == b) = false) : (a != b) = true := by simp [bne, h]
theorem bneF {a b : Int} (h : (a == b) = true) : (a != b) = false := by simp [bne, h]
theorem notT {b : Bool} (h : (!b) = true) : b = false := by cases b with | false => rfl | true => cases h
theorem notF {b : Bool} (h : (!b) = false) : b = true := by cases b with | true => rfl | false => cases h
theorem repE {α : Type} (enc : α → List Value) (n : Nat) (d : α) : List.replicate n (enc d) = (List.replicate n d).map enc ∧ n = (List.replicate n d).length := ⟨by simp, by simp⟩
theorem setE {α : Type} (enc : α → List Value) (l : List α) (i : Nat) (x : α) {cv e : List Value} (h : e.take 0 ++ cv ++ e.drop (0 + cv.length) = enc x) : (l.map enc).set i (e.take 0 ++ cv ++ e.drop (0 + cv.length)) = (l.set i x).map enc ∧ l.length = (l.set i x).length := by
  rw [h, List.map_set, List.length_set]; exact ⟨rfl, rfl⟩
theorem getT_of (T : TL) (p : AV → Bool) (h : T.all (fun x => p x.2) = true) (hj : p .junk = true) : ∀ t, p (getT T t) = true := by
  intro t
  induction T with
  | nil => exact hj
  | cons x T ih =>
    simp only [List.all_cons, Bool.and_eq_true] at h
    simp only [getT]
    split
    · exact h.1
    · exact ih h.2
/-- For Good.adopt. -/
theorem adT {nt n : Nat} {T : TL} (h : T.all (fun x => !x.2.uses n) = true) : ∀ t, t < nt → (getT T t).uses n = false := fun t _ => by
  have := getT_of T (fun a => !a.uses n) h rfl t
  simpa using this
theorem adH {n : Nat} : ∀ {H : HL}, H.all (fun x => !x.2.uses n) = true → ∀ m o, look H m = some o → o.uses n = false
  | [], _, m, o, h => by cases h
  | x :: H, hh, m, o, h => by
    simp only [List.all_cons, Bool.and_eq_true, Bool.not_eq_true'] at hh
    simp only [look] at h
    split at h
    · rw [← Option.some.inj h]; exact hh.1
    · exact adH hh.2 m o h
/-- One temporary is named. -/
def nameT (n : Nat) (ts : List Nat) (T : TL) : TL := T.map fun x => if ts.contains x.1 then (x.1, .own n) else x
def isNil : AV → Bool
  | .v (.slice none 0 0) => true
  | _ => false
theorem isNil_eq {a : AV} (h : isNil a = true) : a = .v (.slice none 0 0) := by
  unfold isNil at h
  split at h
  · rfl
  · cases h
theorem adTT {nt n : Nat} (ts : List Nat) : ∀ {T : TL}, T.all (fun x => !ts.contains x.1 || isNil x.2) = true → ∀ t, t < nt → getT (nameT n ts T) t = getT T t ∨ (getT (nameT n ts T) t = .own n ∧ getT T t = .v (.slice none 0 0))
  | [], _, t, _ => .inl rfl
  | x :: T, h, t, ht => by
    simp only [List.all_cons, Bool.and_eq_true] at h
    have ih := adTT (nt := nt) (n := n) ts h.2 t ht
    unfold nameT at ih ⊢
    simp only [List.map_cons]
    by_cases c : ts.contains x.1 = true
    · rw [if_pos c]
      have h1 := h.1
      rw [c] at h1
      have := isNil_eq (by simpa using h1)
      simp only [getT]
      split
      · exact .inr ⟨rfl, this⟩
      · exact ih
    · rw [if_neg c]
      simp only [getT]
      split
      · exact .inl rfl
      · exact ih
/-- A nil slice is named. -/
theorem Good.named {P : Program} {f : FuncId} {nt : Nat} {p0 : HL} {pan : Bool} {res : AV} {post : Hp} {todo : List Item} {T : TL} {H : HL} (n sz : Nat) (e : TypeId) (ts : List Nat) (hz : 0 < sz) (hc : ((look H n).isNone && (look p0 n).isNone && T.all (fun x => !x.2.uses n) && H.all (fun x => !x.2.uses n) && T.all (fun x => !ts.contains x.1 || isNil x.2)) = true)
    (g : Good P f nt (look p0) pan res post todo (nameT n ts T) ((n, .row sz e 0 []) :: H)) : Good P f nt (look p0) pan res post todo T H := by
  simp only [Bool.and_eq_true, Option.isNone_iff_eq_none] at hc
  obtain ⟨⟨⟨⟨h1, h2⟩, h3⟩, h4⟩, h5⟩ := hc
  exact Good.adopt hz h1 h2 (adT h3) (adH h4) (adTT ts h5) g
/-- One cell is named. -/
def nameH (n m c : Nat) (H : HL) : HL := H.map fun x => if x.1 = m then (x.1, match x.2 with
  | .cells cs t => .cells (cs.set c (.own n)) t
  | o => o) else x
def cellNil (m c : Nat) (H : HL) : Bool := match look H m with
  | some (.cells cs _) => match cs[c]? with
    | some a => isNil a
    | none => false
  | _ => false
theorem look_nameH {n m c : Nat} : ∀ {H : HL} {q : Nat} {o' : Ob}, look (nameH n m c H) q = some o' → ∃ o, look H q = some o ∧ o' = if q = m then (match o with
  | .cells cs t => .cells (cs.set c (.own n)) t
  | o => o) else o
  | [], q, o', h => by cases h
  | x :: H, q, o', h => by
    unfold nameH at h
    simp only [List.map_cons] at h
    by_cases e : x.1 = q
    · refine ⟨x.2, by simp [look, e], ?_⟩
      subst e
      by_cases e2 : x.1 = m
      · rw [if_pos e2] at h; rw [if_pos e2]
        simp only [look, if_true, Option.some.injEq] at h
        exact h.symm
      · rw [if_neg e2] at h; rw [if_neg e2]
        simp only [look, if_true, Option.some.injEq] at h
        exact h.symm
    · have : look (nameH n m c H) q = some o' := by
        by_cases e2 : x.1 = m
        · rw [if_pos e2] at h; simp only [look, if_neg e] at h; exact h
        · rw [if_neg e2] at h; simp only [look, if_neg e] at h; exact h
      obtain ⟨o, h1, h2⟩ := look_nameH this
      exact ⟨o, by simp only [look, if_neg e]; exact h1, h2⟩
theorem Good.namedH {P : Program} {f : FuncId} {nt : Nat} {p0 : HL} {pan : Bool} {res : AV} {post : Hp} {todo : List Item} {T : TL} {H : HL} (n m c sz : Nat) (e : TypeId) (hz : 0 < sz) (hc : ((look H n).isNone && (look p0 n).isNone && T.all (fun x => !x.2.uses n) && H.all (fun x => !x.2.uses n) && cellNil m c H) = true)
    (g : Good P f nt (look p0) pan res post todo T ((n, .row sz e 0 []) :: nameH n m c H)) : Good P f nt (look p0) pan res post todo T H := by
  simp only [Bool.and_eq_true, Option.isNone_iff_eq_none] at hc
  obtain ⟨⟨⟨⟨h1, h2⟩, h3⟩, h4⟩, h5⟩ := hc
  refine Good.adopt2 hz h1 h2 (adT h3) (adH h4) (fun t _ => .inl rfl) (fun q o' hq ho' => ?_) g
  obtain ⟨o, ho, rfl⟩ := look_nameH ho'
  refine ⟨o, ho, fun ρ D w hρ hh => ?_⟩
  by_cases e2 : q = m
  · rw [if_pos e2]
    subst e2
    unfold cellNil at h5
    rw [ho] at h5
    cases o with
    | cells cs t =>
      simp only at h5 ⊢
      split at h5
      · rename_i a ha
        have := isNil_eq h5
        subst this
        obtain ⟨b, vs, q1, q2, q3, q4⟩ := hh
        refine ⟨b, vs, q1, q2, ?_, q4⟩
        obtain ⟨y, hy, hr⟩ := q3.get c _ ha
        have hown : Rep ρ D (.own n) y := by
          cases hr
          have := Rep.own (ρ := ρ) (D := D) n (by rw [hρ]; rfl)
          rwa [hρ] at this
        have hs := q3.set c _ y hown
        have : vs.set c y = vs := by
          apply List.ext_getElem?
          intro j
          rw [List.getElem?_set]
          split
          · rename_i ej
            subst ej
            split
            · rw [hy]
            · rename_i hl; rw [List.getElem?_eq_none (by omega)]
          · rfl
        rwa [this] at hs
      · cases h5
    | row => exact hh
    | lit => exact hh
  · rw [if_neg e2]; exact hh
theorem getg {α : Type} (enc : α → List Value) (d : α) {l : List α} {n : Nat} (h : n < l.length) : (l.map enc)[n]? = some (enc (l.getD n d)) := by
  rw [List.getElem?_map, List.getElem?_eq_getElem h, List.getD_eq_getElem?_getD, List.getElem?_eq_getElem h]; rfl
abbrev Bytes (l : List Int) : Prop := ∀ x ∈ l, 0 ≤ x ∧ x ≤ 255
theorem getD_b {l : List Int} (h : Bytes l) (n : Nat) : 0 ≤ l.getD n 0 ∧ l.getD n 0 ≤ 255 := by
  rw [List.getD_eq_getElem?_getD]
  cases e : l[n]? with
  | none => decide
  | some x => exact h x (List.mem_of_getElem? e)
theorem wr64 {x : Int} (h : -9223372036854775808 ≤ x ∧ x < 9223372036854775808) : AV.v (.int .i64 (IntKind.i64.wrap x)) = AV.v (.int .i64 x) := by
  rw [show IntKind.i64.wrap x = x by rw [IntKind.wrap_i64]; omega]
theorem appE {α : Type} (enc : α → List Value) (a b : List α) : a.map enc ++ b.map enc = (a ++ b).map enc ∧ a.length + b.length = (a ++ b).length := ⟨by rw [List.map_append], by rw [List.length_append]⟩
theorem slE {α : Type} (enc : α → List Value) (sz : Nat) (l : List α) (lo hi : Nat) (h : hi ≤ l.length) : AV.ro sz (hi - lo) (((l.map enc).take hi).drop lo) = AV.ro sz ((l.take hi).drop lo).length (((l.take hi).drop lo).map enc) := by
  rw [List.map_drop, List.map_take, List.length_drop, List.length_take, Nat.min_eq_left h]
theorem slD {α : Type} (enc : α → List Value) (sz : Nat) (l : List α) (lo : Nat) : AV.ro sz (l.length - lo) (((l.map enc).take l.length).drop lo) = AV.ro sz (l.drop lo).length ((l.drop lo).map enc) := by
  have := slE enc sz l lo l.length (Nat.le_refl _)
  rwa [List.take_of_length_le (Nat.le_refl _)] at this
abbrev eb (x : Int) : List Value := [.int .u8 x]
abbrev ei (x : Int) : List Value := [.int .i64 x]
theorem strE : ∀ l : List Int, (l.map eb).flatten = l.map (Value.int .u8)
  | [] => rfl
  | x :: l => by simp only [List.map_cons, List.flatten_cons, strE l]; rfl
theorem oneE {α : Type} (enc : α → List Value) (h : ∀ x, (enc x).all (·.oneCell') = true) (l : List α) : ∀ r ∈ l.map enc, ∀ u ∈ r, u.oneCell' = true := by
  intro r hr u hu
  obtain ⟨x, _, rfl⟩ := List.mem_map.1 hr
  exact List.all_eq_true.1 (h x) u hu
theorem onev {P : Value → Prop} : ∀ r ∈ ([] : List (List Value)), ∀ u ∈ r, P u := fun r h => by cases h
end Go.Proofs.YtahobmjchppciaaDoor.Sx
