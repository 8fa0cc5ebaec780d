/- What operations do to what is known. -/
import Derived.Test.YtahobmjchppciaaDoorSx4
import Derived.Laws.CopyRow
import Derived.Laws.Cells
import Derived.Laws.BytesArg
namespace Go.Proofs.YtahobmjchppciaaDoor.Sx
open Go Go.RowKit

section
variable {P : Program} {o : Oper} {avs : List AV} {pre : Hp} {out : AV}

theorem Step.refl {nw : Nat → Prop} {ρ : Names} {D : Still} {w : World} (h : Sat (fun _ => True) ρ D pre w) : Step nw pre pre ρ D w ρ D w :=
  ⟨Kp.refl _ _, fun _ _ => rfl, Still.le_refl D, fun b h1 h2 => absurd h1 h2, ⟨h.hold, h.inj, fun n b h1 h2 => ⟨(h.dis n b h1 h2).1, .inl ⟨n, h1, h2⟩⟩, h.still, h.glob⟩⟩

/-- What leaves all as it was. -/
theorem ok_same (h : ∀ (ρ : Names) (D : Still) (w : World) (a : Act), Reps ρ D avs (o.op.operands.toList.map a.eval) → Sat (fun _ => True) ρ D pre w → ∃ v, (execOp a.eval o).run P w = .ok (.value v) w ∧ Rep ρ D out v) : OpOk P o avs pre out pre := by
  intro ρ D w a hr hs K Q hK
  obtain ⟨v, h1, h2⟩ := h ρ D w a hr hs
  unfold Oper.wp
  rw [h1]
  exact hK v w ρ D (Step.refl hs) h2

/-- A plain value, from what is known. -/
def plain? : AV → Option Value
  | .v x => some x
  | .agg cs => (plainL cs).map fun l => .agg l.toArray
  | _ => none
where plainL : List AV → Option (List Value)
  | [] => some []
  | .v x :: as => (plainL as).map (x :: ·)
  | _ :: _ => none

theorem plainL_rep {ρ : Names} {D : Still} : ∀ (cs : List AV) (vs l : List Value), plain?.plainL cs = some l → Reps ρ D cs vs → vs = l
  | [], _, l, h, .nil => by simp [plain?.plainL] at h; exact h.symm ▸ rfl
  | .v x :: as, _, l, h, .cons (.v _) h2 => by
    simp only [plain?.plainL, Option.map_eq_some_iff] at h
    obtain ⟨l', h3, rfl⟩ := h
    rw [plainL_rep as _ l' h3 h2]
theorem plain_rep {ρ : Names} {D : Still} {a : AV} {v x : Value} (h : plain? a = some x) (r : Rep ρ D a v) : v = x := by
  cases r with
  | v y => simp [plain?] at h; exact h
  | agg cs vs r =>
    simp only [plain?, Option.map_eq_some_iff] at h
    obtain ⟨l, h1, rfl⟩ := h
    rw [plainL_rep cs vs l h1 r]
  | _ => simp [plain?] at h

/-- What is known of a plain value. -/
def ofV1 : Value → AV
  | .agg cs => .agg (cs.toList.map .v)
  | x => .v x
def ofV : Value → AV
  | .agg cs => .agg (cs.toList.map .v)
  | .tuple vs => .tup (vs.toList.map ofV1)
  | x => .v x
theorem reps_v {ρ : Names} {D : Still} : ∀ (l : List Value), Reps ρ D (l.map .v) l
  | [] => .nil
  | _ :: l => .cons (.v _) (reps_v l)
theorem reps_v1 {ρ : Names} {D : Still} : ∀ (l : List Value), Reps ρ D (l.map ofV1) l
  | [] => .nil
  | x :: l => .cons (by cases x with
    | agg cs => exact .agg _ _ (reps_v _)
    | _ => exact .v _) (reps_v1 l)
theorem rep_ofV (ρ : Names) (D : Still) (x : Value) : Rep ρ D (ofV x) x := by
  cases x with
  | agg cs => exact .agg _ _ (reps_v _)
  | tuple vs => exact .tup _ _ (reps_v1 _)
  | _ => exact .v _

/-- What a computation answers that looks at no memory. -/
def pureOf (P : Program) : Sem Next → Option Value
  | .pure (.value v) => some v
  | .program k => pureOf P (k P)
  | _ => none
theorem pureOf_run {P : Program} : ∀ (s : Sem Next) (v : Value), pureOf P s = some v → ∀ w, s.run P w = .ok (.value v) w := by
  intro s
  induction s with
  | pure a =>
    intro v h w
    cases a with
    | value x => simp [pureOf] at h; subst h; rfl
    | _ => simp [pureOf] at h
  | program k ih => intro v h w; exact ih P v h w
  | _ => intro v h; simp [pureOf] at h

/-- The operands as plain values. -/
def plainOps (xs : List Operand) (avs : List AV) : Option (List (Operand × Value)) :=
  match xs, avs with
  | [], [] => some []
  | _ :: xs, a :: as => do
    let v ← plain? a
    let r ← plainOps xs as
    pure ((.const v, v) :: r)
  | _, _ => none

theorem reps_eval {ρ : Names} {D : Still} {f : Operand → Value} : ∀ {xs : List Operand} {avs : List AV}, Reps ρ D avs (xs.map f) → ∀ (g : Operand → AV), avs = xs.map g → ∀ x ∈ xs, Rep ρ D (g x) (f x)
  | [], _, _, _, _, _, hx => by cases hx
  | y :: ys, _, .cons h1 h2, g, e, x, hx => by
    simp only [List.map_cons, List.cons.injEq] at e
    rcases List.mem_cons.1 hx with rfl | hx
    · rw [← e.1]; exact h1
    · exact reps_eval h2 g e.2 x hx

/-- Operations on plain values: g tells what each operand is. -/
theorem ok_plain (hs : ∀ cs b, o.op ≠ .select cs b) (T : Nat → AV) (v : Value) (hp : ∀ x ∈ o.op.operands, (plain? (evT T x)).isSome = true)
    (hv : pureOf P (execOp (fun x => (plain? (evT T x)).getD undef) o) = some v) : OpOk P o (o.op.operands.toList.map (evT T)) pre (ofV v) pre := by
  refine ok_same fun ρ D w a hr _ => ⟨v, ?_, rep_ofV ρ D v⟩
  rw [execOp_congr (ρ' := fun x => (plain? (evT T x)).getD undef) o hs fun x hx => ?_]
  · exact pureOf_run _ v hv w
  · have r := reps_eval hr (evT T) rfl x (by simpa using hx)
    obtain ⟨y, hy⟩ := Option.isSome_iff_exists.1 (hp x hx)
    rw [plain_rep hy r, hy]
    rfl

theorem reps_one {ρ : Names} {D : Still} {a : AV} {f : Operand → Value} {x : Operand} (h : Reps ρ D [a] ([x].map f)) : Rep ρ D a (f x) := by
  cases h with | cons h _ => exact h

/-- One operand handed on. -/
theorem ok_move {x : Operand} {av : AV} (ho : o.op = .move x ∨ o.op = .assign x) : OpOk P o [av] pre av pre := by
  refine ok_same fun ρ D w a hr _ => ?_
  rcases ho with ho | ho
  · rw [ho] at hr; exact ⟨a.eval x, by simp only [execOp, ho]; rfl, reps_one hr⟩
  · rw [ho] at hr; exact ⟨a.eval x, by simp only [execOp, ho]; rfl, reps_one hr⟩

/-- Is it surely no nil? -/
def AV.some? : AV → Bool
  | .ptr _ _ | .roe _ _ | .oe _ _ _ _ | .ifc _ _ => true
  | .fn f _ _ => match f with | .func _ => true | _ => false
  | _ => false
theorem ok_nilCheck {x : Operand} {av : AV} (ho : o.op = .nilCheck x) (hs : av.some? = true) : OpOk P o [av] pre av pre := by
  refine ok_same fun ρ D w a hr _ => ?_
  rw [ho] at hr
  have r := reps_one hr
  refine ⟨a.eval x, ?_, r⟩
  simp only [execOp, ho]
  generalize a.eval x = y at r
  cases r with
  | ptr => rfl
  | roe => rfl
  | oe => rfl
  | ifc => rfl
  | fn f => cases f <;> first | rfl | (simp [AV.some?] at hs)
  | _ => simp [AV.some?] at hs

def isAggD : TypeDesc → Bool
  | .struct _ | .array _ _ => true
  | _ => false
/-- How many cells a variable of a type takes; 'none' inside: it is one value. -/
def aggOf (P : Program) (t : TypeId) : Option (Option Nat) :=
  (P.underlying t).bind fun d => (P.info? t).bind fun i => if isAggD d then some (some i.size) else if i.size = 1 then some none else none
theorem run_isAgg {t : TypeId} {d : TypeDesc} (h : P.underlying t = some d) (w : World) : (isAgg t).run P w = .ok (isAggD d) w := by
  unfold isAgg
  rw [Sem.run_bind, run_underlying h w]
  cases d <;> rfl
theorem aggOf_some {t : TypeId} {k : Option Nat} (h : aggOf P t = some k) : ∃ d i, P.underlying t = some d ∧ P.info? t = some i ∧ isAggD d = k.isSome ∧ i.size = k.getD 1 := by
  unfold aggOf at h
  obtain ⟨d, h1, h⟩ := Option.bind_eq_some_iff.1 h
  obtain ⟨i, h2, h⟩ := Option.bind_eq_some_iff.1 h
  refine ⟨d, i, h1, h2, ?_⟩
  split at h
  · rename_i hd; obtain rfl := Option.some.inj h; exact ⟨hd, rfl⟩
  · rename_i hd
    split at h
    · rename_i hs; obtain rfl := Option.some.inj h; exact ⟨by simpa using hd, hs⟩
    · cases h
theorem run_load_one {t : TypeId} (h : aggOf P t = some none) {w : World} {ad : Addr} {v : Value} (hc : w.cell? ad = some v) : (loadVar t ad).run P w = .ok v w := by
  obtain ⟨d, i, hu, hi, hd, hs⟩ := aggOf_some h
  simp only [loadVar, Sem.run_bind, run_isAgg hu, hd, Result.andThen_ok]
  simp [load, Sem.run, hc]
theorem run_load_agg {t : TypeId} {k : Nat} (h : aggOf P t = some (some k)) {w : World} {ad : Addr} {cs : List Value} (hk : cs.length = k) (hc : ∀ (j : Nat) (v : Value), cs[j]? = some v → w.cell? (ad.add j) = some v) : (loadVar t ad).run P w = .ok (.agg cs.toArray) w := by
  have hl := run_loadCells_list (P := P) w ad cs hc
  obtain ⟨d, i, hu, hi, hd, hs⟩ := aggOf_some h
  simp only [Option.getD_some] at hs
  simp [loadVar, Sem.run_bind, run_isAgg hu, hd, sizeOf, typeInfo, hi, hs, ← hk, hl]
theorem run_store {t : TypeId} {k : Option Nat} (h : aggOf P t = some k) {w : World} {g off : Nat} {cur : Array Value} {te : TypeId} {v : Value} (hv : v.cells.size = k.getD 1) (hg : w.heap[g]? = some (.cells cur te (0, 0))) (hl : off + v.cells.size ≤ cur.size)
    (h1 : ∀ x ∈ v.cells.toList, x.oneCell' = true) : (storeVar t ⟨g, off, none⟩ v).run P w = .ok () (w.setRow g (cur.toList.take off ++ v.cells.toList ++ cur.toList.drop (off + v.cells.size)).toArray) := by
  obtain ⟨d, i, hu, hi, hd, hs⟩ := aggOf_some h
  have := run_storeCells_at P g off te v.cells.toList 0 cur w hg (by simpa using hl) h1
  simp only [Nat.add_zero, Array.length_toList] at this
  simp [storeVar, sizeOf, typeInfo, hi, hs, hv, this]
theorem add_plain (b o j : Nat) : (⟨b, o, none⟩ : Addr).add j = ⟨b, o + j, none⟩ := by unfold Addr.add; split <;> simp_all

/-- The cells of a value. -/
def AV.cells : AV → List AV
  | .agg cs => cs
  | x => [x]
/-- Is it surely the value of one cell? -/
def AV.one : AV → Bool
  | .v x => x.oneCell'
  | .agg _ | .tup _ | .junk => false
  | _ => true
theorem one_ok {ρ : Names} {D : Still} {a : AV} {v : Value} (r : Rep ρ D a v) (h : a.one = true) : v.oneCell' = true := by
  cases r with
  | v => exact h
  | own _ h' => exact h'
  | mp _ h' => exact h'
  | agg => cases h
  | tup => cases h
  | junk => cases h
  | _ => rfl
theorem ones_ok {ρ : Names} {D : Still} : ∀ {as : List AV} {vs : List Value}, Reps ρ D as vs → as.all AV.one = true → ∀ x ∈ vs, x.oneCell' = true
  | _, _, .nil, _, x, hx => by cases hx
  | _, _, .cons h1 h2, h, x, hx => by
    simp only [List.all_cons, Bool.and_eq_true] at h
    rcases List.mem_cons.1 hx with rfl | hx
    · exact one_ok h1 h.1
    · exact ones_ok h2 h.2 x hx
theorem cells_ok {ρ : Names} {D : Still} {a : AV} {v : Value} (r : Rep ρ D a v) (h : a.cells.all AV.one = true) : Reps ρ D a.cells v.cells.toList := by
  cases r with
  | agg cs vs r => simpa [AV.cells, Value.cells] using r
  | v x =>
    simp only [AV.cells, List.all_cons, AV.one, List.all_nil, Bool.and_true] at h
    have : v.cells.toList = [v] := by cases v <;> first | (simp [Value.oneCell'] at h; done) | rfl
    rw [this]; exact .cons (.v _) .nil
  | own n hn =>
    have : (ρ n).cells.toList = [ρ n] := by generalize ρ n = y at hn; cases y <;> first | (simp [Value.oneCell'] at hn; done) | rfl
    rw [this]; exact .cons (.own _ hn) .nil
  | mp n hn =>
    have : (ρ n).cells.toList = [ρ n] := by generalize ρ n = y at hn; cases y <;> first | (simp [Value.oneCell'] at hn; done) | rfl
    rw [this]; exact .cons (.mp _ hn) .nil
  | tup => simp [AV.cells, AV.one] at h
  | junk => simp [AV.cells, AV.one] at h
  | ptr n off b hb => exact .cons (.ptr _ _ _ hb) .nil
  | ro sz k rows base cap h1 h2 h3 h4 => exact .cons (.ro _ _ _ _ _ h1 h2 h3 h4) .nil
  | ron _ _ _ _ _ h1 h2 h3 => exact .cons (.ron _ _ _ _ _ h1 h2 h3) .nil
  | roe row b o off cells t fr h1 h2 => exact .cons (.roe _ _ _ _ _ _ _ h1 h2) .nil
  | oe n sz i off b len cap hb => exact .cons (.oe _ _ _ _ _ _ _ hb) .nil
  | fn f x y z u h1 h2 => exact .cons (.fn _ _ _ _ _ h1 h2) .nil
  | ifc t x y h1 => exact .cons (.ifc _ _ _ h1) .nil
theorem reps_part {ρ : Names} {D : Still} : ∀ {as : List AV} {vs : List Value}, Reps ρ D as vs → ∀ (i k : Nat), Reps ρ D ((as.drop i).take k) ((vs.drop i).take k)
  | _, _, .nil, i, k => by simp; exact .nil
  | _, _, .cons h1 h2, 0, 0 => by simp; exact .nil
  | _, _, .cons h1 h2, 0, k + 1 => by
    have := reps_part h2 0 k
    simp only [List.drop_zero] at this ⊢
    rw [List.take_succ_cons, List.take_succ_cons]
    exact .cons h1 this
  | _, _, .cons h1 h2, i + 1, k => by simpa using reps_part h2 i k

section heap
variable {ρ : Names} {D : Still} {w : World}
theorem holds_cells {n : Nat} {cs : List AV} {t : TypeId} {b : Nat} (h : Holds ρ D w n (.cells cs t)) (hb : ρ n = .pointer (some ⟨b, 0, none⟩)) : ∃ vs, w.heap[b]? = some (.cells vs.toArray t (0, 0)) ∧ Reps ρ D cs vs ∧ vs.all (·.oneCell') = true := by
  obtain ⟨b', vs, h1, h2, h3, h4⟩ := h
  rw [hb] at h1
  cases h1
  exact ⟨vs, h2, h3, h4⟩
theorem cell_of_block {b i : Nat} {vs : List Value} {t : TypeId} {fr : Nat × Nat} (h : w.heap[b]? = some (.cells vs.toArray t fr)) : w.cell? ⟨b, i, none⟩ = vs[i]? := by
  simp [World.cell?, h]
end heap

/-- A variable of a block is read. -/
theorem ok_load_one {t : TypeId} {x : Operand} {n off : Nat} {cs : List AV} {te : TypeId} {c : AV} (ho : o.op = .load t x) (ht : aggOf P t = some none) (hp : pre n = some (.cells cs te)) (hc : cs[off]? = some c) : OpOk P o [.ptr n off] pre c pre := by
  refine ok_same fun ρ D w a hr hs => ?_
  rw [ho] at hr
  have r := reps_one hr
  have hh := hs.hold n _ hp
  generalize hy : a.eval x = y at r
  cases r with
  | ptr _ _ b hb =>
    obtain ⟨vs, h1, h2, h3⟩ := holds_cells hh hb
    obtain ⟨v, h4, h5⟩ := h2.get off c hc
    refine ⟨v, ?_, h5⟩
    have := run_load_one ht (w := w) (ad := ⟨b, off, none⟩) ((cell_of_block h1).trans h4)
    simp [execOp, ho, hy, Instr.loadAt, Instr.sureAddr, this]
theorem ok_load_agg {t : TypeId} {x : Operand} {n off k : Nat} {cs : List AV} {te : TypeId} (ho : o.op = .load t x) (ht : aggOf P t = some (some k)) (hp : pre n = some (.cells cs te)) (hk : off + k ≤ cs.length) : OpOk P o [.ptr n off] pre (.agg ((cs.drop off).take k)) pre := by
  refine ok_same fun ρ D w a hr hs => ?_
  rw [ho] at hr
  have r := reps_one hr
  have hh := hs.hold n _ hp
  generalize hy : a.eval x = y at r
  cases r with
  | ptr _ _ b hb =>
    obtain ⟨vs, h1, h2, h3⟩ := holds_cells hh hb
    have hl := h2.length
    refine ⟨_, ?_, .agg _ _ (reps_part h2 off k)⟩
    have := run_load_agg ht (w := w) (ad := ⟨b, off, none⟩) (cs := (vs.drop off).take k) (by simp; omega) (fun j v hj => by
      rw [add_plain, cell_of_block h1]
      rw [List.getElem?_take] at hj
      split at hj
      · rw [List.getElem?_drop] at hj; exact hj
      · cases hj)
    simp [execOp, ho, hy, Instr.loadAt, Instr.sureAddr, this]
/-- A variable of what is only read. -/
theorem ok_load_ro_one {t : TypeId} {x : Operand} {row : List Value} {off : Nat} {c : Value} (ho : o.op = .load t x) (ht : aggOf P t = some none) (hc : row[off]? = some c) : OpOk P o [.roe row off] pre (.v c) pre := by
  refine ok_same fun ρ D w a hr hs => ?_
  rw [ho] at hr
  have r := reps_one hr
  generalize hy : a.eval x = y at r
  cases r with
  | roe _ b o' _ cells te fr h1 h2 =>
    refine ⟨c, ?_, .v _⟩
    have h3 := hs.still b _ h1
    have := run_load_one ht (w := w) (ad := ⟨b, o' + off, none⟩) (v := c) (by simp [World.cell?, h3]; exact h2 off c hc)
    simp [execOp, ho, hy, Instr.loadAt, Instr.sureAddr, this]
theorem ok_load_ro_agg {t : TypeId} {x : Operand} {row : List Value} {off k : Nat} (ho : o.op = .load t x) (ht : aggOf P t = some (some k)) (hk : off + k ≤ row.length) : OpOk P o [.roe row off] pre (.agg (((row.drop off).take k).map .v)) pre := by
  refine ok_same fun ρ D w a hr hs => ?_
  rw [ho] at hr
  have r := reps_one hr
  generalize hy : a.eval x = y at r
  cases r with
  | roe _ b o' _ cells te fr h1 h2 =>
    refine ⟨_, ?_, .agg _ _ (reps_v _)⟩
    have h3 := hs.still b _ h1
    have := run_load_agg ht (w := w) (ad := ⟨b, o' + off, none⟩) (cs := (row.drop off).take k) (by simp; omega) (fun j v hj => by
      rw [add_plain]
      rw [List.getElem?_take] at hj
      split at hj
      · rw [List.getElem?_drop] at hj
        simp [World.cell?, h3]
        rw [Nat.add_assoc]
        exact h2 _ v hj
      · cases hj)
    simp [execOp, ho, hy, Instr.loadAt, Instr.sureAddr, this]
end
end Go.Proofs.YtahobmjchppciaaDoor.Sx
