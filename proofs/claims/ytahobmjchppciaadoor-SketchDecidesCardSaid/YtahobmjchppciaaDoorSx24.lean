/- What operations do to what is known, more: two arrays compared. -/
import Derived.Test.YtahobmjchppciaaDoorSx14
import Derived.ChangeKeysEq
namespace Go.Proofs.YtahobmjchppciaaDoor.Sx
open Go Go.RowKit
set_option linter.unusedVariables false
set_option linter.unusedSimpArgs false
/-- Are two arrays the same, all whose elements are whole numbers, truths, texts? -/
def eqArr (td : TypeDesc) : List Value → List Value → Option Bool
  | [], [] => some true
  | x :: l, y :: r => (eqOne td x y).bind fun b => (eqArr td l r).map (b && ·)
  | _, _ => none
theorem eqArr_run {P : Program} {w : World} {e : TypeId} {td : TypeDesc} {xs ys : Array Value} (d : Nat) (hu : P.underlying e = some td) : ∀ (l r : List Value) (k : Nat) (b : Bool), eqArr td l r = some b → (∀ i : Nat, i < l.length → xs[k + i]? = l[i]?) → (∀ i : Nat, i < r.length → ys[k + i]? = r[i]?) → (Op.eqItems (d + 1) e 1 xs ys (List.range' k l.length)).run P w = .ok b w
  | [], [], k, b, h, _, _ => by simp only [eqArr, Option.some.injEq] at h; subst h; simp [Op.eqItems]
  | x :: l, y :: r, k, b, h, hx, hy => by
    unfold eqArr at h
    obtain ⟨q, h1, h2⟩ := Option.bind_eq_some_iff.1 h
    obtain ⟨b2, h3, rfl⟩ := Option.map_eq_some_iff.1 h2
    obtain ⟨q1, q2⟩ := eqOne_run (w := w) d hu h1
    have hx0 : xs[k * 1]? = some x := by have := hx 0 (Nat.succ_pos _); simpa using this
    have hy0 : ys[k * 1]? = some y := by have := hy 0 (Nat.succ_pos _); simpa using this
    rw [show (x :: l).length = l.length + 1 from rfl, List.range'_succ]
    simp only [Op.eqItems, Sem.run_bind, q2 _ _ _ hx0, q2 _ _ _ hy0, q1, Result.andThen_ok]
    have ih := eqArr_run (w := w) (xs := xs) (ys := ys) d hu l r (k + 1) b2 h3 (fun i hi => by have := hx (i + 1) (Nat.succ_lt_succ hi); rw [show k + 1 + i = k + (i + 1) by omega]; simpa using this) (fun i hi => by have := hy (i + 1) (Nat.succ_lt_succ hi); rw [show k + 1 + i = k + (i + 1) by omega]; simpa using this)
    cases q
    · simp
    · simp [ih]
  | [], _ :: _, _, _, h, _, _ => by simp [eqArr] at h
  | _ :: _, [], _, _, h, _, _ => by simp [eqArr] at h
/-- Two arrays compared. -/
theorem ok_eqArr {P : Program} {o : Oper} {pre : Hp} {t t' e : TypeId} {op : BinOp} {x y : Operand} {as bs : List AV} {xs ys : List Value} {b : Bool} {td : TypeDesc} (ho : o.op = .binOp op t x y t') (hop : op = .eql ∨ op = .neq) (hu : P.underlying t = some (.array xs.length e)) (he : P.underlying e = some td) (hc : P.cellsOf e = 1) (hg : P.eqGuardType P.depth t = false)
    (ha : plain?.plainL as = some xs) (hb : plain?.plainL bs = some ys) (hq : eqArr td xs ys = some b) : OpOk P o [.agg as, .agg bs] pre (.v (.bool (if op = .neq then !b else b))) pre := by
  refine ok_same fun ρ D w ac hr _ => ⟨.bool (if op = .neq then !b else b), ?_, .v _⟩
  rw [ho] at hr
  obtain ⟨r1, r2⟩ := reps_two (x := x) (y := y) hr
  have e1 := plain_rep (a := .agg as) (x := .agg xs.toArray) (by simp [plain?, ha]) r1
  have e2 := plain_rep (a := .agg bs) (x := .agg ys.toArray) (by simp [plain?, hb]) r2
  obtain ⟨i, hi⟩ := info_of_underlying he
  have h1 : (Op.equal t (.agg xs.toArray) (.agg ys.toArray)).run P w = .ok b w := by
    unfold Op.equal
    rw [show Op.maxDepth = 9998 + 1 + 1 from rfl, run_equalIn_array w (9998 + 1) _ _ hu hi, hc, List.range_eq_range']
    exact eqArr_run 9998 he xs ys 0 b hq (fun i hi => by simp) (fun i hi => by simp)
  have h2 : (eqGuard op t x y (.agg xs.toArray) (.agg ys.toArray)).run P w = .ok () w := by
    rcases hop with rfl | rfl <;> simp [eqGuard, hg]
  unfold execOp
  simp only [ho, e1, e2, Sem.run_bind, h2, Result.andThen_ok]
  rcases hop with rfl | rfl
  · simp [binOp, h1]
  · simp [binOp, h1]
theorem plainL_self {ρ : Names} {D : Still} : ∀ (cs : List AV) (l : List Value), plain?.plainL cs = some l → Reps ρ D cs l
  | [], l, h => by
    simp only [plain?.plainL, Option.some.injEq] at h
    subst h
    exact .nil
  | a :: as, l, h => by
    cases a with
    | v x =>
      simp only [plain?.plainL, Option.map_eq_some_iff] at h
      obtain ⟨l', h3, rfl⟩ := h
      exact .cons (.v _) (plainL_self as l' h3)
    | _ => simp [plain?.plainL] at h
/-- A function for which the model stands in answers at once, over plain values. -/
theorem ok_extern {P : Program} {o : Oper} {pre : Hp} {f : FuncId} {g : Operand} {xs : Array Operand} {ts : Array TypeId} {fav : AV} {args rs : List AV} {vs us : List Value} (ho : o.op = .call { callee := .value g, args := xs, argTypes := ts }) (hf : targetOf fav = some (f, [], []))
    (ha : plain?.plainL args = some vs) (hr : plain?.plainL rs = some us) (hc : ∀ w, (callFunc f vs.toArray).run P w = .ok (.value (.tuple us.toArray)) w) : OpOk P o (fav :: args) pre (.tup rs) pre := by
  refine ok_same fun ρ D w a hrep _ => ?_
  rw [ho] at hrep
  have hr' : Reps ρ D (fav :: args) (a.eval g :: xs.toList.map a.eval) := by simpa [Op.operands, Call.operands] using hrep
  cases hr' with
  | cons r1 r2 =>
    obtain ⟨c, d, hy, hc1, hd1⟩ := target_rep hf r1
    have hc1 : c = #[] := by
      have : c.toList = [] := by cases hc2 : c.toList with
        | nil => rfl
        | cons x y => rw [hc2] at hc1; cases hc1
      exact Array.toList_eq_nil_iff.1 this
    have hd1 : d = #[] := by
      have : d.toList = [] := by cases hc2 : d.toList with
        | nil => rfl
        | cons x y => rw [hc2] at hd1; cases hd1
      exact Array.toList_eq_nil_iff.1 this
    have e1 := plainL_rep _ _ _ ha r2
    refine ⟨.tuple us.toArray, ?_, .tup _ _ (plainL_self rs us hr)⟩
    have e2 : xs.map a.eval = vs.toArray := by apply Array.ext'; rw [← e1]; simp
    have := hc w
    subst hc1 hd1
    unfold execOp
    simp [ho, resolve, Deferred.ofValue, invoke, hy, e2, this]
/-- An element of a package's variable that is an array and only is read. -/
theorem ok_globEl {P : Program} {o : Oper} {pre : Hp} {t elem : TypeId} {g len : Nat} {y : Operand} {kd : IntKind} {i : Int} {av : AV} {e : List Value} (ho : o.op = .indexAddr t (.global g) y) (ht : P.underlying t = some (.array len elem)) (hs : (P.info? elem).map (·.size) = some 1)
    (hi : 0 ≤ i ∧ i < (len : Int)) (hg : ∀ D, GG D → ∃ cells te fr, D g = some (.cells cells te fr) ∧ ∀ (j : Nat) (x : Value), e[j]? = some x → cells[i.toNat + j]? = some x) : OpOk P o [av, .v (.int kd i)] pre (.roe e 0) pre := by
  refine ok_same fun ρ D w a hr hsat => ?_
  rw [ho] at hr
  obtain ⟨r1, r2⟩ := reps_two (x := .global g) (y := y) hr
  obtain ⟨cs, te, fr, h1, h2⟩ := hg D hsat.glob
  refine ⟨_, ?_, .roe e g i.toNat 0 cs te fr h1 h2⟩
  generalize hv : a.eval y = v at r2
  cases r2
  obtain ⟨inf, h3, h4⟩ := Option.map_eq_some_iff.1 hs
  obtain ⟨c, rfl⟩ : ∃ c : Nat, i = c := ⟨i.toNat, by omega⟩
  have hb : (0 : Int) ≤ (c : Int) ∧ (c : Int) < (len : Int) := hi
  have e0 : a.eval (.global g) = .pointer (some ⟨g, 0, none⟩) := rfl
  simp [execOp, ho, e0, hv, Instr.indexAt, asIntOf, run_underlying ht, Instr.sureAddr, hb, sizeOf, typeInfo, h3, h4]
  rw [if_pos (show c < len by omega)]
  simp [Addr.add]
  intro z; exact z.symm
end Go.Proofs.YtahobmjchppciaaDoor.Sx
