/- A row that is written no more is only read from then on. -/
import Derived.Test.YtahobmjchppciaaDoorSx9
namespace Go.Proofs.YtahobmjchppciaaDoor.Sx
open Go Go.RowKit
set_option linter.unusedVariables false
set_option linter.unusedSimpArgs false

mutual
/-- Another thing instead of a named row. -/
def subA (n : Nat) (r : AV) : AV → AV
  | .own m => if m = n then r else .own m
  | .ifc t x => .ifc t (subA n r x)
  | .agg cs => .agg (subL n r cs)
  | .tup cs => .tup (subL n r cs)
  | .fn f a b => .fn f (subL n r a) (subL n r b)
  | .v x => .v x
  | .ptr m off => .ptr m off
  | .ro sz k rows => .ro sz k rows
  | .ron sz k rows => .ron sz k rows
  | .roe row off => .roe row off
  | .oe m sz i off => .oe m sz i off
  | .mp m => .mp m
  | .junk => .junk
def subL (n : Nat) (r : AV) : List AV → List AV
  | [] => []
  | a :: as => subA n r a :: subL n r as
end
def subO (n : Nat) (r : AV) : Ob → Ob
  | .cells cs t => .cells (subL n r cs) t
  | o => o
def hpSub (n : Nat) (r : AV) (H : Hp) : Hp := fun m => if m = n then none else (H m).map (subO n r)
def subT (n : Nat) (r : AV) (T : TL) : TL := T.map fun x => (x.1, subA n r x.2)
def subH (n : Nat) (r : AV) : HL → HL
  | [] => []
  | x :: H => if x.1 = n then subH n r H else (x.1, subO n r x.2) :: subH n r H
theorem look_subH (n : Nat) (r : AV) : ∀ H : HL, look (subH n r H) = hpSub n r (look H)
  | [] => by funext m; simp [subH, look, hpSub]
  | x :: H => by
    obtain ⟨k, o⟩ := x
    have ih := look_subH n r H
    funext m
    unfold subH
    by_cases c : k = n
    · simp only [c, if_true]
      rw [ih]
      unfold hpSub
      by_cases d : m = n
      · rw [if_pos d, if_pos d]
      · rw [if_neg d, if_neg d]; simp [look, Ne.symm d]
    · simp only [c, if_false, look]
      by_cases d : k = m
      · subst d; simp [hpSub, c]
      · rw [if_neg d, ih]
        unfold hpSub
        by_cases e : m = n
        · rw [if_pos e, if_pos e]
        · rw [if_neg e, if_neg e]; simp [d]
theorem getT_subT (n : Nat) (r : AV) : ∀ (T : TL) (t : Nat), getT (subT n r T) t = subA n r (getT T t)
  | [], t => rfl
  | x :: T, t => by
    have ih := getT_subT n r T t
    unfold subT at ih ⊢
    simp only [List.map_cons, getT]
    split
    · rfl
    · exact ih

section
variable {ρ ρ' : Names} {D D' : Still} {w w' : World} {n : Nat} {r : AV}
mutual
theorem sub_rep (h : Rep ρ D r (ρ n)) : ∀ (a : AV) (v : Value), Rep ρ D a v → Rep ρ D (subA n r a) v
  | .own m, _, .own _ h1 => by
    simp only [subA]
    split
    · rename_i e; rw [e]; exact h
    · exact .own _ h1
  | .ifc _ x, _, .ifc _ _ _ h1 => by simp only [subA]; exact .ifc _ _ _ (sub_rep h x _ h1)
  | .agg cs, _, .agg _ _ h1 => by simp only [subA]; exact .agg _ _ (subL_rep h cs _ h1)
  | .tup cs, _, .tup _ _ h1 => by simp only [subA]; exact .tup _ _ (subL_rep h cs _ h1)
  | .fn f a b, _, .fn _ _ _ _ _ h1 h2 => by simp only [subA]; exact .fn _ _ _ _ _ (subL_rep h a _ h1) (subL_rep h b _ h2)
  | .v _, _, h1 => by simp only [subA]; exact h1
  | .ptr _ _, _, h1 => by simp only [subA]; exact h1
  | .ro _ _ _, _, h1 => by simp only [subA]; exact h1
  | .ron _ _ _, _, h1 => by simp only [subA]; exact h1
  | .roe _ _, _, h1 => by simp only [subA]; exact h1
  | .oe _ _ _ _, _, h1 => by simp only [subA]; exact h1
  | .mp _, _, h1 => by simp only [subA]; exact h1
  | .junk, _, h1 => by simp only [subA]; exact h1
theorem subL_rep (h : Rep ρ D r (ρ n)) : ∀ (a : List AV) (v : List Value), Reps ρ D a v → Reps ρ D (subL n r a) v
  | [], _, .nil => by simp only [subL]; exact .nil
  | a :: as, _, .cons h1 h2 => by simp only [subL]; exact .cons (sub_rep h a _ h1) (subL_rep h as _ h2)
end

/-- A named row is only read from now on. -/
theorem Sat.freeze {mine : Nat → Prop} {H : Hp} {sz k : Nat} {e : TypeId} {rows : List (List Value)} (s : Sat mine ρ D H w) (hn : H n = some (.row sz e k rows)) :
    ∃ D', D.le D' ∧ (∀ b, D b = none → D' b ≠ none → blk (ρ n) = some b) ∧ Rep ρ D' (.ro sz k rows) (ρ n) ∧ Sat mine ρ D' (hpSub n (.ro sz k rows) H) w := by
  have hh := s.hold n _ hn
  obtain ⟨h0, hk, ⟨hlen, hown⟩, hrl⟩ := hh
  have old : ∀ m o, hpSub n (.ro sz k rows) H m = some o → m ≠ n ∧ ∃ o0, H m = some o0 ∧ o = subO n (.ro sz k rows) o0 := by
    intro m o h
    unfold hpSub at h
    split at h
    · cases h
    · rename_i hm
      obtain ⟨o0, h1, h2⟩ := Option.map_eq_some_iff.1 h
      exact ⟨hm, o0, h1, h2.symm⟩
  have oldn : ∀ m, hpSub n (.ro sz k rows) H m ≠ none → m ≠ n ∧ H m ≠ none := by
    intro m h
    obtain ⟨o, ho⟩ := Option.ne_none_iff_exists'.1 h
    obtain ⟨h1, o0, h2, _⟩ := old m o ho
    exact ⟨h1, by rw [h2]; simp⟩
  have hold : ∀ (D' : Still), D.le D' → Rep ρ D' (.ro sz k rows) (ρ n) → ∀ m o, hpSub n (.ro sz k rows) H m = some o → Holds ρ D' w m o := by
    intro D' hle hrep m o h
    obtain ⟨h1, o0, h2, rfl⟩ := old m o h
    have := Holds.mono hle rfl (fun _ _ => rfl) (fun _ _ => rfl) (s.hold m o0 h2)
    cases o0 with
    | cells cs t =>
      obtain ⟨b, vs, q1, q2, q3, q4⟩ := this
      exact ⟨b, vs, q1, q2, subL_rep hrep _ _ q3, q4⟩
    | row => exact this
    | lit => exact this
  rcases hown with ⟨hv, h2⟩ | ⟨g, cap, cur, hv, _, hg, hkc, _, hcs, htk⟩
  · have hr : rows = [] := List.eq_nil_of_length_eq_zero (by omega)
    subst hr
    have hrep : Rep ρ D (.ro sz k []) (ρ n) := by
      rw [hv, h2]
      exact .ro _ _ _ _ _ (.inl rfl) rfl (Nat.le_refl _) (fun _ => rfl)
    exact ⟨D, Still.le_refl D, fun b h1 h2 => absurd h1 h2, hrep, hold D (Still.le_refl D) hrep, fun m m' b h1 h2 => s.inj m m' b (oldn m h1).2 (oldn m' h2).2, fun m b h1 h2 => s.dis m b (oldn m h1).2 h2, s.still, s.glob⟩
  · have hb : blk (ρ n) = some g := by rw [hv]; rfl
    have hD := (s.dis n g (by rw [hn]; simp) hb).1
    have hle : D.le (fun b => if b = g then some (.cells cur e (0, 0)) else D b) := by
      intro b o h
      have : b ≠ g := fun e => by rw [e, hD] at h; cases h
      simp only [if_neg this]; exact h
    have hrep : Rep ρ (fun b => if b = g then some (.cells cur e (0, 0)) else D b) (.ro sz k rows) (ρ n) := by
      rw [hv]
      refine .ro _ _ _ _ _ (.inr ⟨g, 0, cur, e, (0, 0), rfl, if_pos rfl, fun i row hi => ⟨hrl row (List.mem_of_getElem? hi), fun j x hx => ?_⟩⟩) hk hkc (fun h => by cases h)
      have hj : j < sz := by
        rw [← hrl row (List.mem_of_getElem? hi)]
        exact (List.getElem?_eq_some_iff.1 hx).1
      have := flatten_get rows hrl i row hi j hj
      rw [hx, ← htk, List.getElem?_take] at this
      split at this
      · rw [Nat.zero_add]; simpa using this
      · cases this
    refine ⟨_, hle, fun b h1 h2 => ?_, hrep, hold _ hle hrep, fun m m' b h1 h2 => s.inj m m' b (oldn m h1).2 (oldn m' h2).2, fun m b h1 h2 => ?_, fun b o h => ?_, s.glob.mono hle⟩
    · by_cases c : b = g
      · rw [c]; exact hb
      · simp only [if_neg c] at h2; exact absurd h1 h2
    · obtain ⟨q1, q2⟩ := oldn m h1
      have hbg : b ≠ g := fun e => s.inj m n g q2 (by rw [hn]; simp) q1 (e ▸ h2) hb
      simp only [if_neg hbg]
      exact s.dis m b q2 h2
    · by_cases c : b = g
      · simp only [c, if_true, Option.some.injEq] at h
        rw [c, hg, h]
      · simp only [if_neg c] at h; exact s.still b o h

/-- An answer holds a new row: it is only read from then on. -/
theorem Owes.freeze {pre post : Hp} {pan : Bool} {res : AV} {sz k : Nat} {e : TypeId} {rows : List (List Value)} {en : Ending} (q : Owes pre pan res post ρ D w en w') (hn : post n = some (.row sz e k rows)) (hp : pre n = none)
    (hu : (subA n (.ro sz k rows) res).uses n = false) (hh : ∀ m o, hpSub n (.ro sz k rows) post m = some o → o.uses n = false) : Owes pre pan (subA n (.ro sz k rows) res) (hpSub n (.ro sz k rows) post) ρ D w en w' := by
  obtain ⟨ρ', D', v, rfl, t, hv⟩ := q
  obtain ⟨D2, hle, hnew, hrep, hsat⟩ := t.sat.freeze hn
  have same : ∀ m, m ≠ n → (fun m => if m = n then ρ n else ρ' m) m = ρ' m := fun m hm => if_neg hm
  refine ⟨fun m => if m = n then ρ n else ρ' m, D2, v, rfl, ⟨t.kp, fun m hm => ?_, Still.le_trans t.le hle, fun b h1 h2 => ?_, ⟨fun m o ho => ?_, fun m m' b h1 h2 h3 h4 h5 => ?_, fun m b h1 h2 => ?_, hsat.still, hsat.glob⟩⟩, ?_⟩
  · by_cases c : m = n
    · simp only [c, if_true]
    · rw [if_neg c]
      refine t.names m fun q => hm ⟨?_, q.2⟩
      unfold hpSub
      rw [if_neg c]
      simpa using q.1
  · by_cases c : D' b = none
    · have h3 := hnew b c h2
      rcases (t.sat.dis n b (by rw [hn]; simp) h3).2 with q | q
      · exact .inl q
      · exact .inr q
    · exact t.fresh b h1 c
  · have hm : m ≠ n := fun e => by rw [e] at ho; simp [hpSub] at ho
    exact Holds.mono (Still.le_refl D2) (same m hm) (fun q hq => same q fun e => by rw [e, hh m o ho] at hq; cases hq) (fun _ _ => rfl) (hsat.hold m o ho)
  · have c1 : m ≠ n := fun e => by rw [e] at h1; simp [hpSub] at h1
    have c2 : m' ≠ n := fun e => by rw [e] at h2; simp [hpSub] at h2
    rw [if_neg c1] at h4
    rw [if_neg c2] at h5
    exact hsat.inj m m' b h1 h2 h3 h4 h5
  · have c1 : m ≠ n := fun e => by rw [e] at h1; simp [hpSub] at h1
    rw [if_neg c1] at h2
    exact hsat.dis m b h1 h2
  · exact Rep.mono (Still.le_refl D2) _ _ (fun q hq => same q fun e => by rw [e, hu] at hq; cases hq) (sub_rep hrep _ _ (Rep.mono hle _ _ (fun _ _ => rfl) hv))


theorem Ok.freeze {P : Program} {f : FuncId} {args : List AV} {pre post : Hp} {res : AV} {sz k : Nat} {e : TypeId} {rows : List (List Value)} (h : Ok P f args pre res post) (hn : post n = some (.row sz e k rows)) (hp : pre n = none)
    (hu : (subA n (.ro sz k rows) res).uses n = false) (hh : ∀ m o, hpSub n (.ro sz k rows) post m = some o → o.uses n = false) : Ok P f args pre (subA n (.ro sz k rows) res) (hpSub n (.ro sz k rows) post) := by
  intro ρ D w vals hr hs
  exact (h ρ D w vals hr hs).mono fun en w' q => Owes.freeze (pan := false) q hn hp hu hh
theorem Good.freezeEnd {P : Program} {f : FuncId} {nt : Nat} {p0 : Hp} {pan : Bool} {res : AV} {post : Hp} {todo : List Item} {T : TL} {H : HL} {sz k : Nat} {e : TypeId} {rows : List (List Value)} (g : Good P f nt p0 pan res post todo T H) (hn : post n = some (.row sz e k rows)) (hp : p0 n = none)
    (hu : (subA n (.ro sz k rows) res).uses n = false) (hh : ∀ m o, hpSub n (.ro sz k rows) post m = some o → o.uses n = false) : Good P f nt p0 pan (subA n (.ro sz k rows) res) (hpSub n (.ro sz k rows) post) todo T H := by
  intro ρ0 D0 w0 ρ D a w hr hs b cs hb hk
  obtain ⟨e, w', fr, h1, q⟩ := g ρ0 D0 w0 ρ D a w hr hs b cs hb hk
  exact ⟨e, w', fr, Owes.freeze h1 hn hp hu hh, q⟩

/-- A row that is handed to what only reads it: it is only read from then on. -/
theorem Calls.eat {P : Program} {f : FuncId} {args : List AV} {pre post : Hp} {res : AV} {pan : Bool} {sz k : Nat} {e : TypeId} {rows : List (List Value)} (hn : pre n = some (.row sz e k rows)) (hp : post n = none)
    (h : ∀ (ρ : Names) (D : Still) (w : World) (vals : List Value), Reps ρ D (subL n (.ro sz k rows) args) vals → Sat (fun _ => True) ρ D (hpSub n (.ro sz k rows) pre) w →
      Calls P f vals.toArray w fun e w' => ∃ ρ' D' v, e = endOf pan v ∧ Step (fun m => post m ≠ none ∧ hpSub n (.ro sz k rows) pre m = none) (hpSub n (.ro sz k rows) pre) post ρ D w ρ' D' w' ∧ Rep ρ' D' res v) :
    ∀ (ρ : Names) (D : Still) (w : World) (vals : List Value), Reps ρ D args vals → Sat (fun _ => True) ρ D pre w →
      Calls P f vals.toArray w fun e w' => ∃ ρ' D' v, e = endOf pan v ∧ Step (fun m => post m ≠ none ∧ pre m = none) pre post ρ D w ρ' D' w' ∧ Rep ρ' D' res v := by
  intro ρ D w vals hr hs
  obtain ⟨D2, hle, hnew, hrep, hsat⟩ := hs.freeze hn
  have sub : ∀ m, hpSub n (.ro sz k rows) pre m ≠ none → pre m ≠ none := by
    intro m hm h0
    unfold hpSub at hm
    split at hm
    · exact hm rfl
    · rw [h0] at hm; exact hm rfl
  refine (h ρ D2 w vals (subL_rep hrep _ _ (Reps.mono hle _ _ (fun _ _ => rfl) hr)) hsat).mono fun en w' q => ?_
  obtain ⟨ρ', D', v, rfl, t, hv⟩ := q
  refine ⟨ρ', D', v, rfl, ⟨t.kp.mono fun b _ => fun ⟨m, h1, h2⟩ => ⟨m, sub m h1, h2⟩, fun m hm => t.names m fun q => hm ⟨q.1, ?_⟩, Still.le_trans hle t.le, fun b h1 h2 => ?_, ?_⟩, hv⟩
  · have hmn : m ≠ n := fun e => q.1 (e ▸ hp)
    have := q.2
    unfold hpSub at this
    rw [if_neg hmn] at this
    simpa using this
  · by_cases c : D2 b = none
    · rcases t.fresh b c h2 with ⟨m, q1, q2⟩ | q
      · exact .inl ⟨m, sub m q1, q2⟩
      · exact .inr q
    · exact .inl ⟨n, by rw [hn]; simp, hnew b h1 c⟩
  · refine ⟨t.sat.hold, t.sat.inj, fun m b h1 h2 => ?_, t.sat.still, t.sat.glob⟩
    obtain ⟨q1, q2⟩ := t.sat.dis m b h1 h2
    refine ⟨q1, ?_⟩
    rcases q2 with ⟨m', q2, q3⟩ | q2
    · exact .inl ⟨m', sub m' q2, q3⟩
    · exact .inr q2
theorem Ok.eat {P : Program} {f : FuncId} {args : List AV} {pre post : Hp} {res : AV} {sz k : Nat} {e : TypeId} {rows : List (List Value)} (hn : pre n = some (.row sz e k rows)) (hp : post n = none)
    (h : Ok P f (subL n (.ro sz k rows) args) (hpSub n (.ro sz k rows) pre) res post) : Ok P f args pre res post := Calls.eat (pan := false) hn hp h
theorem OkP.eat {P : Program} {f : FuncId} {args : List AV} {pre post : Hp} {res : AV} {sz k : Nat} {e : TypeId} {rows : List (List Value)} (hn : pre n = some (.row sz e k rows)) (hp : post n = none)
    (h : OkP P f (subL n (.ro sz k rows) args) (hpSub n (.ro sz k rows) pre) res post) : OkP P f args pre res post := Calls.eat (pan := true) hn hp h

/-- From a place on a row is only read. -/
theorem Good.freeze {P : Program} {f : FuncId} {nt : Nat} {p0 : Hp} {pan : Bool} {res : AV} {post : Hp} {todo : List Item} {T : TL} {H : HL} {sz k : Nat} {e : TypeId} {rows : List (List Value)} (hn : look H n = some (.row sz e k rows))
    (g : Good P f nt p0 pan res post todo (subT n (.ro sz k rows) T) (subH n (.ro sz k rows) H)) : Good P f nt p0 pan res post todo T H := by
  intro ρ0 D0 w0 ρ D a w hr hs
  obtain ⟨D2, hle, hnew, hrep, hsat⟩ := hs.step.sat.freeze hn
  refine g ρ0 D0 w0 ρ D2 a w ⟨hr.size, fun t ht => ?_, hr.defers⟩ ⟨⟨hs.step.kp, hs.step.names, Still.le_trans hs.step.le hle, fun b h1 h2 => ?_, ?_⟩⟩
  · rw [getT_subT]
    exact sub_rep hrep _ _ (Rep.mono hle _ _ (fun _ _ => rfl) (hr.reps t ht))
  · by_cases c : D b = none
    · have h3 := hnew b c h2
      exact (hs.step.sat.dis n b (by rw [hn]; simp) h3).2
    · exact hs.step.fresh b h1 c
  · rw [look_subH]; exact hsat
end
/-- A name is another one. -/
def nm (a b m : Nat) : Nat := if m = a then b else m
mutual
def renA (a b : Nat) : AV → AV
  | .own m => .own (nm a b m)
  | .ptr m off => .ptr (nm a b m) off
  | .oe m sz i off => .oe (nm a b m) sz i off
  | .mp m => .mp (nm a b m)
  | .ifc t x => .ifc t (renA a b x)
  | .agg cs => .agg (renL a b cs)
  | .tup cs => .tup (renL a b cs)
  | .fn f x y => .fn f (renL a b x) (renL a b y)
  | .v x => .v x
  | .ro sz k rows => .ro sz k rows
  | .ron sz k rows => .ron sz k rows
  | .roe row off => .roe row off
  | .junk => .junk
def renL (a b : Nat) : List AV → List AV
  | [] => []
  | x :: xs => renA a b x :: renL a b xs
end
def renO (a b : Nat) : Ob → Ob
  | .cells cs t => .cells (renL a b cs) t
  | o => o
def renT (a b : Nat) (T : TL) : TL := T.map fun x => (x.1, renA a b x.2)
def renH (a b : Nat) (H : HL) : HL := H.map fun x => (nm a b x.1, renO a b x.2)
theorem getT_renT (a b : Nat) : ∀ (T : TL) (t : Nat), getT (renT a b T) t = renA a b (getT T t)
  | [], t => by simp [renT, getT, renA]
  | x :: T, t => by
    have ih := getT_renT a b T t
    unfold renT at ih ⊢
    simp only [List.map_cons, getT]
    split
    · rfl
    · exact ih

section
variable {ρ ρ' : Names} {D D' : Still} {w w' : World} {a b : Nat}
mutual
theorem ren_rep (h : ∀ m, m ≠ b → ρ' (nm a b m) = ρ m) : ∀ (x : AV) (v : Value), x.uses b = false → Rep ρ D x v → Rep ρ' D (renA a b x) v
  | .own m, _, hu, .own _ h1 => by
    have e := h m (by simpa [AV.uses] using hu)
    simp only [renA]
    have := Rep.own (ρ := ρ') (D := D) (nm a b m) (by rw [e]; exact h1)
    rwa [e] at this
  | .mp m, _, hu, .mp _ h1 => by
    have e := h m (by simpa [AV.uses] using hu)
    simp only [renA]
    have := Rep.mp (ρ := ρ') (D := D) (nm a b m) (by rw [e]; exact h1)
    rwa [e] at this
  | .ptr m off, _, hu, .ptr _ _ k h1 => by
    simp only [renA]
    exact .ptr _ _ _ ((h m (by simpa [AV.uses] using hu)).trans h1)
  | .oe m _ _ _, _, hu, .oe _ _ _ _ _ _ _ h1 => by
    simp only [renA]
    exact .oe _ _ _ _ _ _ _ ((h m (by simpa [AV.uses] using hu)).trans h1)
  | .ifc _ x, _, hu, .ifc _ _ _ h1 => by simp only [renA]; exact .ifc _ _ _ (ren_rep h x _ (by simpa [AV.uses] using hu) h1)
  | .agg cs, _, hu, .agg _ _ h1 => by simp only [renA]; exact .agg _ _ (renL_rep h cs _ (by simpa [AV.uses] using hu) h1)
  | .tup cs, _, hu, .tup _ _ h1 => by simp only [renA]; exact .tup _ _ (renL_rep h cs _ (by simpa [AV.uses] using hu) h1)
  | .fn f x y, _, hu, .fn _ _ _ _ _ h1 h2 => by
    simp only [AV.uses, Bool.or_eq_false_iff] at hu
    simp only [renA]
    exact .fn _ _ _ _ _ (renL_rep h x _ hu.1 h1) (renL_rep h y _ hu.2 h2)
  | .v _, _, _, .v _ => by simp only [renA]; exact .v _
  | .ro _ _ _, _, _, .ro _ _ _ _ _ h1 h2 h3 h4 => by simp only [renA]; exact .ro _ _ _ _ _ h1 h2 h3 h4
  | .ron _ _ _, _, _, .ron _ _ _ _ _ h1 h2 h3 => by simp only [renA]; exact .ron _ _ _ _ _ h1 h2 h3
  | .roe _ _, _, _, .roe _ _ _ _ _ _ _ h1 h2 => by simp only [renA]; exact .roe _ _ _ _ _ _ _ h1 h2
  | .junk, _, _, .junk _ => by simp only [renA]; exact .junk _
theorem renL_rep (h : ∀ m, m ≠ b → ρ' (nm a b m) = ρ m) : ∀ (x : List AV) (v : List Value), AV.uses.usesL b x = false → Reps ρ D x v → Reps ρ' D (renL a b x) v
  | [], _, _, .nil => by simp only [renL]; exact .nil
  | x :: xs, _, hu, .cons h1 h2 => by
    simp only [AV.uses.usesL, Bool.or_eq_false_iff] at hu
    simp only [renL]
    exact .cons (ren_rep h x _ hu.1 h1) (renL_rep h xs _ hu.2 h2)
end
theorem look_renH : ∀ (H : HL) (m : Nat) (o : Ob), (∀ x ∈ H, x.1 ≠ b) → look (renH a b H) m = some o → ∃ m0 o0, look H m0 = some o0 ∧ m = nm a b m0 ∧ o = renO a b o0 ∧ m0 ≠ b
  | [], _, _, _, h => by cases h
  | x :: H, m, o, hb, h => by
    have hx := hb x (List.mem_cons_self ..)
    simp only [renH, List.map_cons, look] at h
    split at h
    · rename_i e
      exact ⟨x.1, x.2, by simp [look], e.symm, (Option.some.inj h).symm, hx⟩
    · rename_i e
      obtain ⟨m0, o0, h1, h2, h3, h4⟩ := look_renH H m o (fun y hy => hb y (List.mem_cons_of_mem _ hy)) h
      refine ⟨m0, o0, ?_, h2, h3, h4⟩
      simp only [look]
      rw [if_neg, h1]
      intro e2
      exact e (by rw [h2, e2])

/-- From a place on a block has another name. -/
theorem Good.ren {P : Program} {f : FuncId} {nt : Nat} {p0 : HL} {pan : Bool} {res : AV} {post : Hp} {todo : List Item} {T : TL} {H : HL} (a b : Nat) (hc : (H.all (fun x => x.1 != b && !x.2.uses b) && T.all (fun x => !x.2.uses b) && (look p0 a).isNone && (look p0 b).isNone) = true)
    (g : Good P f nt (look p0) pan res post todo (renT a b T) (renH a b H)) : Good P f nt (look p0) pan res post todo T H := by
  simp only [Bool.and_eq_true, List.all_eq_true, bne_iff_ne, ne_eq, Bool.not_eq_true', Option.isNone_iff_eq_none] at hc
  obtain ⟨⟨⟨c1, c2⟩, c3⟩, c4⟩ := hc
  intro ρ0 D0 w0 ρ D ac w hr hs
  have key : ∀ m, m ≠ b → (fun m => if m = b then ρ a else ρ m) (nm a b m) = ρ m := by
    intro m hm
    unfold nm
    by_cases c : m = a
    · simp [c]
    · simp only [if_neg c, if_neg hm]
  have hT : ∀ t, (getT T t).uses b = false := by
    intro t
    clear g hr
    induction T with
    | nil => rfl
    | cons x T ih =>
      simp only [getT]
      split
      · exact c2 x (List.mem_cons_self ..)
      · exact ih fun y hy => c2 y (List.mem_cons_of_mem _ hy)
  have hO : ∀ m o, look H m = some o → o.uses b = false := by
    intro m o h
    clear hs g
    induction H with
    | nil => cases h
    | cons x H ih =>
      simp only [look] at h
      split at h
      · rw [← Option.some.inj h]; exact (c1 x (List.mem_cons_self ..)).2
      · exact ih (fun y hy => c1 y (List.mem_cons_of_mem _ hy)) h
  have old := fun m o => look_renH (a := a) H m o fun x hx => (c1 x hx).1
  have oldn : ∀ m, look (renH a b H) m ≠ none → ∃ m0, look H m0 ≠ none ∧ m = nm a b m0 ∧ m0 ≠ b := by
    intro m h
    obtain ⟨o, ho⟩ := Option.ne_none_iff_exists'.1 h
    obtain ⟨m0, o0, h1, h2, h3, h4⟩ := old m o ho
    exact ⟨m0, by rw [h1]; simp, h2, h4⟩
  refine g ρ0 D0 w0 (fun m => if m = b then ρ a else ρ m) D ac w ⟨hr.size, fun t ht => ?_, hr.defers⟩ ⟨⟨hs.step.kp, fun m hm => ?_, hs.step.le, hs.step.fresh, ⟨fun m o ho => ?_, fun m m' k h1 h2 h3 h4 h5 => ?_, fun m k h1 h2 => ?_, hs.step.sat.still, hs.step.sat.glob⟩⟩⟩
  · rw [getT_renT]; exact ren_rep key _ _ (hT t) (hr.reps t ht)
  · have : m ≠ b := fun e => hm (e ▸ c4)
    rw [if_neg this]; exact hs.step.names m hm
  · obtain ⟨m0, o0, h1, rfl, rfl, h4⟩ := old m o ho
    have hh := hs.step.sat.hold m0 o0 h1
    have e := key m0 h4
    have hu := hO m0 o0 h1
    cases o0 with
    | cells cs t =>
      obtain ⟨q, vs, q1, q2, q3, q4⟩ := hh
      exact ⟨q, vs, e.trans q1, q2, renL_rep key _ _ hu q3, q4⟩
    | row sz el k rows =>
      obtain ⟨q1, q2, q3, q4⟩ := hh
      refine ⟨q1, q2, ?_, q4⟩
      show w.ownsRow 0 el sz ((fun m => if m = b then ρ a else ρ m) (nm a b m0)) _ _
      rw [e]; exact q3
    | lit sz el k rows =>
      obtain ⟨q1, q2, ⟨q3, q5, q6, q7⟩, q4⟩ := hh
      exact ⟨q1, q2, ⟨q3, q5, e.trans q6, q7⟩, q4⟩
  · obtain ⟨m1, g1, rfl, n1⟩ := oldn m h1
    obtain ⟨m2, g2, rfl, n2⟩ := oldn m' h2
    have e1 := key m1 n1
    have e2 := key m2 n2
    exact hs.step.sat.inj m1 m2 k g1 g2 (fun e => h3 (by rw [e])) (e1 ▸ h4) (e2 ▸ h5)
  · obtain ⟨m1, g1, rfl, n1⟩ := oldn m h1
    have e1 := key m1 n1
    exact hs.step.sat.dis m1 k g1 (e1 ▸ h2)
end

mutual
/-- Less is told. -/
inductive LeA : AV → AV → Prop
  | refl (a) : LeA a a
  | nil (sz) : LeA (.v (.slice none 0 0)) (.ro sz 0 [])
  | junk (a) : LeA a .junk
  | ron (sz k rows) : LeA (.ron sz k rows) (.ro sz k rows)
  | agg {as bs} : LeL as bs → LeA (.agg as) (.agg bs)
  | vagg {vs : Array Value} {bs} : LeL (vs.toList.map .v) bs → LeA (.v (.agg vs)) (.agg bs)
  | tup {as bs} : LeL as bs → LeA (.tup as) (.tup bs)
  | ifc (t) {a b} : LeA a b → LeA (.ifc t a) (.ifc t b)
inductive LeL : List AV → List AV → Prop
  | nil : LeL [] []
  | cons {a b as bs} : LeA a b → LeL as bs → LeL (a :: as) (b :: bs)
end
mutual
theorem LeA.rep {ρ : Names} {D : Still} : ∀ {a b : AV}, LeA a b → ∀ v, Rep ρ D a v → Rep ρ D b v
  | _, _, .refl _, _, h => h
  | _, _, .nil _, _, .v _ => .ro _ _ _ _ _ (.inl rfl) rfl (Nat.le_refl _) (fun _ => rfl)
  | _, _, .junk _, _, _ => .junk _
  | _, _, .ron _ _ _, _, .ron _ _ _ _ _ h1 h2 h3 => .ro _ _ _ _ _ h1 h2 h3 (fun h => by cases h)
  | _, _, .agg l, _, .agg _ _ h => .agg _ _ (LeL.reps l _ h)
  | _, _, .vagg (vs := vs) l, _, .v _ => by
    have := LeL.reps (ρ := ρ) (D := D) l _ (reps_vs vs.toList)
    have := Rep.agg (ρ := ρ) (D := D) _ _ this
    rwa [Array.toArray_toList] at this
  | _, _, .tup l, _, .tup _ _ h => .tup _ _ (LeL.reps l _ h)
  | _, _, .ifc _ l, _, .ifc _ _ _ h => .ifc _ _ _ (LeA.rep l _ h)
theorem LeL.reps {ρ : Names} {D : Still} : ∀ {a b : List AV}, LeL a b → ∀ v, Reps ρ D a v → Reps ρ D b v
  | _, _, .nil, _, .nil => .nil
  | _, _, .cons l1 l2, _, .cons h1 h2 => .cons (LeA.rep l1 _ h1) (LeL.reps l2 _ h2)
end
/-- A slice is nil, or it isn't. -/
theorem Ok.nilOr {P : Program} {f : FuncId} {sz k : Nat} {rows : List (List Value)} {args : List AV} {pre post : Hp} {res : AV} (h1 : rows = [] → k = 0 → Ok P f (.v (.slice none 0 0) :: args) pre res post) (h2 : Ok P f (.ron sz k rows :: args) pre res post) : Ok P f (.ro sz k rows :: args) pre res post := by
  intro ρ D w vals hr hs
  cases hr with
  | cons r1 r2 =>
    cases r1 with
    | ro _ _ _ base cap q1 q2 q3 q4 =>
      cases base with
      | none =>
        have hc := q4 rfl
        have hk : k = 0 := by omega
        have hrows : rows = [] := List.eq_nil_of_length_eq_zero (by omega)
        subst hc hk
        exact h1 hrows rfl ρ D w _ (.cons (.v _) r2) hs
      | some ad => exact h2 ρ D w _ (.cons (.ron _ _ _ _ _ q1 q2 q3) r2) hs
theorem Ok.le {P : Program} {f : FuncId} {args : List AV} {pre post : Hp} {res res' : AV} (h : Ok P f args pre res post) (l : LeA res res') : Ok P f args pre res' post := by
  intro ρ D w vals hr hs
  refine (h ρ D w vals hr hs).mono fun e w' ⟨ρ', D', v, h1, h2, h3⟩ => ⟨ρ', D', v, h1, h2, l.rep v h3⟩
theorem Ok.args {P : Program} {f : FuncId} {args args' : List AV} {pre post : Hp} {res : AV} (h : Ok P f args' pre res post) (l : LeL args args') : Ok P f args pre res post := by
  intro ρ D w vals hr hs
  exact h ρ D w vals (l.reps _ hr) hs
theorem OkP.args {P : Program} {f : FuncId} {args args' : List AV} {pre post : Hp} {res : AV} (h : OkP P f args' pre res post) (l : LeL args args') : OkP P f args pre res post := by
  intro ρ D w vals hr hs
  exact h ρ D w vals (l.reps _ hr) hs
theorem Good.le {P : Program} {f : FuncId} {nt : Nat} {p0 : Hp} {pan : Bool} {res res' : AV} {post : Hp} {todo : List Item} {T : TL} {H : HL} (g : Good P f nt p0 pan res post todo T H) (l : LeA res res') : Good P f nt p0 pan res' post todo T H := by
  intro ρ0 D0 w0 ρ D a w hr hs
  intro b cs hb hk
  obtain ⟨e, w', fr, ⟨ρ', D', v, h1, h2, h3⟩, q⟩ := g ρ0 D0 w0 ρ D a w hr hs b cs hb hk
  exact ⟨e, w', fr, ⟨ρ', D', v, h1, h2, l.rep v h3⟩, q⟩
end Go.Proofs.YtahobmjchppciaaDoor.Sx
