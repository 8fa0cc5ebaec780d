/- What operations do to what is known: rows made; slices of slices; lengths; calls; parts and wholes. -/
import Derived.Test.YtahobmjchppciaaDoorSx7
namespace Go.Proofs.YtahobmjchppciaaDoor.Sx
open Go Go.RowKit
set_option linter.unusedVariables false
set_option linter.unusedSimpArgs false

section
variable {P : Program} {o : Oper} {avs : List AV} {pre : Hp} {out : AV} {ρ : Names} {D : Still} {w w' : World}

theorem flatten_replicate_len {sz : Nat} {z : List Value} (hz : z.length = sz) : ∀ k, (List.replicate k z).flatten.length = k * sz
  | 0 => by simp
  | k + 1 => by simp [List.replicate_succ, hz, flatten_replicate_len hz k, Nat.add_mul]; omega
theorem made_flat {z : Array Value} {sz : Nat} (hz : z.size = sz) (hs : 0 < sz) (k : Nat) : (madeCells z (k * sz)).toList = (List.replicate k z.toList).flatten := by
  apply List.ext_getElem?
  intro j
  by_cases c : j < k * sz
  · have h1 : (madeCells z (k * sz)).toList[j]? = some (z[j % z.size]!) := by
      simp [madeCells, c]
    have hd := Nat.div_add_mod j sz
    have hq : j / sz < k := (Nat.div_lt_iff_lt_mul hs).2 c
    have hm : j % sz < sz := Nat.mod_lt _ hs
    have h2 := flatten_get (sz := sz) (List.replicate k z.toList) (fun x hx => by rw [List.eq_of_mem_replicate hx]; simpa using hz) (j / sz) z.toList (by simp [hq]) (j % sz) hm
    rw [show j / sz * sz + j % sz = j by rw [Nat.mul_comm]; omega] at h2
    rw [h1, h2, hz]
    simp [Array.getElem!_eq_getD, Array.getD_eq_getD_getElem?, Array.getElem?_eq_getElem (show j % sz < z.size by omega)]
  · rw [List.getElem?_eq_none (by simp [madeCells]; omega), List.getElem?_eq_none (by rw [flatten_replicate_len (sz := sz) (by simpa using hz)]; omega)]

/-- A new row of zeros. -/
theorem ok_make {t e : TypeId} {x y : Operand} {sz bytes n : Nat} {kl kc : IntKind} {len cap : Int} {z : List Value} (ho : o.op = .makeSlice t x y) (ht : ElemOk P t e sz bytes) (hz : (zeroOf P e).map (·.cells.toList) = some z) (hp : ∀ m, pre m = none)
    (h0 : 0 ≤ len) (hlc : len ≤ cap) (hby : cap * bytes ≤ 281474976710656) (h63 : cap ≤ 9223372036854775807) :
    OpOk P o [.v (.int kl len), .v (.int kc cap)] pre (.own n) (updH pre n (some (.row sz e len.toNat (List.replicate len.toNat z)))) := by
  intro ρ D w a hr hs K Q hK
  rw [ho] at hr
  obtain ⟨r1, r2⟩ := reps_two hr
  obtain ⟨i, z', hi, hz', hsize, hzs, hb⟩ := ht.ok
  generalize hu : a.eval x = u at r1
  generalize hv : a.eval y = v at r2
  cases r1
  cases r2
  have hzz : z'.cells.toList = z := by
    unfold zeroOf at hz
    rw [hi] at hz
    simp only [Option.bind_some, hz', Option.map_some, Option.some.injEq] at hz
    exact hz
  have hrun := run_make (P := P) w t e i z' ht.ht hi hz' kl kc len cap h0 hlc (by rw [hb, Int.mul_comm]; exact hby) h63
  rw [hsize] at hrun
  have e1 : (execOp a.eval o).run P w = .ok (.value (.slice (some ⟨w.heap.size, 0, none⟩) len.toNat cap.toNat)) (w.alloc (.cells (madeCells z'.cells (cap.toNat * sz)) e)) := by
    simp [execOp, ho, hu, hv, hrun]
  unfold Oper.wp
  rw [e1]
  have hle : len.toNat ≤ cap.toNat := by omega
  refine hK _ _ _ D (Step.alloc (y := .slice (some ⟨w.heap.size, 0, none⟩) len.toNat cap.toNat) hs hp (.inl rfl) ⟨ht.pos, by simp, ⟨?_, .inr ⟨w.heap.size, cap.toNat, _, if_pos rfl, Nat.zero_le _, alloc_new _ _, hle, by simp only [maxLen]; omega, by simp [madeCells], ?_⟩⟩, fun r hr => ?_⟩) ?_
  · exact flatten_replicate_len (by rw [← hzz]; simpa using hzs) _
  · rw [made_flat hzs ht.pos, hzz]
    have e3 : List.replicate cap.toNat z = List.replicate len.toNat z ++ List.replicate (cap.toNat - len.toNat) z := by rw [List.replicate_append_replicate]; congr 1; omega
    have hl := flatten_replicate_len (sz := sz) (z := z) (by rw [← hzz]; simpa using hzs) len.toNat
    rw [e3, List.flatten_append, List.take_append_of_le_length (by omega), List.take_of_length_le (by omega)]
  · rw [List.eq_of_mem_replicate hr, ← hzz]; simpa using hzs
  · have := Rep.own (ρ := fun m => if m = n then Value.slice (some ⟨w.heap.size, 0, none⟩) len.toNat cap.toNat else ρ m) (D := D) n (by rw [if_pos rfl]; rfl)
    rwa [if_pos rfl] at this

/-- A part of a slice that is only read. -/
theorem part_ro {sz k lo hi : Nat} {rows : List (List Value)} {base : Option Addr} {cap : Nat} (h1 : RoAt D base sz rows) (h2 : rows.length = k) (h3 : k ≤ cap) (h4 : base = none → cap = 0) (hlo : lo ≤ hi) (hhi : hi ≤ k) :
    Rep ρ D (.ro sz (hi - lo) ((rows.take hi).drop lo)) (.slice (if cap = lo then base else base.map (·.add (lo * sz))) (hi - lo) (cap - lo)) := by
  refine .ro _ _ _ _ _ ?_ (by simp; omega) (by omega) (fun h => ?_)
  · rcases h1 with h1 | ⟨b, o', cells, te, fr, h5, h6, h7⟩
    · subst h1; exact .inl (by simp)
    · by_cases c : cap = lo
      · exact .inl (by rw [List.drop_eq_nil_of_le]; simp; omega)
      · rw [if_neg c]
        subst h5
        refine .inr ⟨b, o' + lo * sz, cells, te, fr, by simp [add_plain], h6, fun i row hi' => ?_⟩
        rw [List.getElem?_drop, List.getElem?_take] at hi'
        split at hi'
        · obtain ⟨q1, q2⟩ := h7 (lo + i) row hi'
          refine ⟨q1, fun j x hx => ?_⟩
          have := q2 j x hx
          rwa [Nat.add_mul, ← Nat.add_assoc] at this
        · cases hi'
  · split at h
    · have := h4 h; omega
    · cases base with
      | none => have := h4 rfl; omega
      | some ad => simp at h

def loOf : Option AV → Option Int
  | none => some 0
  | some (.v (.int _ i)) => some i
  | _ => none
theorem ok_slice {t e : TypeId} {x : Operand} {lo hi : Option Operand} {sz k : Nat} {rows : List (List Value)} {l h : Int} {las has : List AV} (ho : o.op = .slice t x lo hi none) (ht : P.underlying t = some (.slice e)) (hs : (P.info? e).map (·.size) = some sz)
    (hl : (lo = none ∧ las = [] ∧ l = 0) ∨ ∃ y kd, lo = some y ∧ las = [.v (.int kd l)]) (hh : (hi = none ∧ has = [] ∧ h = (k : Int)) ∨ ∃ y kd, hi = some y ∧ has = [.v (.int kd h)])
    (h0 : 0 ≤ l) (h1 : l ≤ h) (h2 : h ≤ (k : Int)) : OpOk P o (.ro sz k rows :: (las ++ has)) pre (.ro sz (h.toNat - l.toNat) ((rows.take h.toNat).drop l.toNat)) pre := by
  refine ok_same fun ρ D w a hr _ => ?_
  rw [ho] at hr
  obtain ⟨inf, h3, h4⟩ := Option.map_eq_some_iff.1 hs
  have hrr : Reps ρ D (.ro sz k rows :: (las ++ has)) (a.eval x :: ((lo.toArray ++ hi.toArray).toList.map a.eval)) := by
    have e1 : (Op.slice t x lo hi none).operands.toList.map a.eval = a.eval x :: ((lo.toArray ++ hi.toArray).toList.map a.eval) := by
      cases lo <;> cases hi <;> simp [Op.operands]
    rwa [e1] at hr
  cases hrr with
  | cons r1 r2 =>
    generalize hu : a.eval x = u at r1
    cases r1 with
    | ro _ _ _ base cap q1 q2 q3 q4 =>
      have hlo : ∃ kd, (match lo with | some y => a.eval y = .int kd l | none => l = 0) := by
        rcases hl with ⟨rfl, rfl, rfl⟩ | ⟨y, kd, rfl, rfl⟩
        · exact ⟨.i64, rfl⟩
        · refine ⟨kd, ?_⟩
          simp only [Option.toArray_some, List.cons_append] at r2
          cases hi <;> (simp at r2; cases r2 with | cons r _ => generalize hz : a.eval y = z at r; cases r; exact hz)
      have hhi : ∃ kd, (match hi with | some y => a.eval y = .int kd h | none => h = (k : Int)) := by
        rcases hh with ⟨rfl, rfl, rfl⟩ | ⟨y, kd, rfl, rfl⟩
        · exact ⟨.i64, rfl⟩
        · refine ⟨kd, ?_⟩
          rcases hl with ⟨rfl, rfl, _⟩ | ⟨y', kd', rfl, rfl⟩
          · simp at r2; cases r2 with | cons r _ => generalize hz : a.eval y = z at r; cases r; exact hz
          · simp at r2; cases r2 with | cons _ r2 => cases r2 with | cons r _ => generalize hz : a.eval y = z at r; cases r; exact hz
      obtain ⟨kl, hlo⟩ := hlo
      obtain ⟨kh, hhi⟩ := hhi
      refine ⟨_, ?_, part_ro (lo := l.toNat) (hi := h.toNat) q1 q2 q3 q4 (by omega) (by omega)⟩
      have b1 : 0 ≤ h ∧ h ≤ (cap : Int) := by omega
      have b2 : 0 ≤ l ∧ l ≤ (h.toNat : Int) := by omega
      have b3 : 0 ≤ l ∧ l ≤ (k : Int) := by omega
      have hA : (Instr.sliceAt t (a.eval x) (lo.map a.eval) (hi.map a.eval) none).run P w = .ok (.slice (if cap = l.toNat then base else base.map (·.add (l.toNat * sz))) (h.toNat - l.toNat) (cap - l.toNat)) w := by
        rw [hu]
        cases lo with
        | none =>
          simp only at hlo
          subst hlo
          cases hi with
          | none =>
            simp only at hhi
            subst hhi
            simp [Instr.sliceAt, run_underlying ht, Instr.slice, Instr.sliceBounds, sizeOf, typeInfo, h3]
          | some y =>
            simp only at hhi
            simp [Instr.sliceAt, run_underlying ht, Instr.slice, Instr.sliceBounds, Instr.sliceBound, asIntOf, sizeOf, typeInfo, h3, hhi, b1]
        | some x' =>
          simp only at hlo
          cases hi with
          | none =>
            simp only at hhi
            subst hhi
            simp [Instr.sliceAt, run_underlying ht, Instr.slice, Instr.sliceBounds, Instr.sliceBound, asIntOf, sizeOf, typeInfo, h3, h4, hlo, b3]
          | some y =>
            simp only at hhi
            simp [Instr.sliceAt, run_underlying ht, Instr.slice, Instr.sliceBounds, Instr.sliceBound, asIntOf, sizeOf, typeInfo, h3, h4, hlo, hhi, b1, b2]
            intro hq; exfalso; omega
      simp [execOp, ho, hA]

/-- The length of a slice. -/
theorem ok_len {t e : TypeId} {x : Operand} {av : AV} {k : Nat} (ho : o.op = .call { callee := .builtin .len, args := #[x], argTypes := #[t] }) (ht : P.underlying t = some (.slice e))
    (hk : (∃ sz rows, av = .ro sz k rows) ∨ (∃ n sz te rows, av = .own n ∧ pre n = some (.row sz te k rows)) ∨ (av = .v (.slice none 0 0) ∧ k = 0)) : OpOk P o [av] pre (.v (.int .i64 k)) pre := by
  refine ok_same fun ρ D w a hr hs => ⟨_, ?_, .v _⟩
  rw [ho] at hr
  have r := reps_one (x := x) hr
  have hy : ∃ base cap, a.eval x = .slice base k cap := by
    generalize a.eval x = y at r
    rcases hk with ⟨sz, rows, rfl⟩ | ⟨n, sz, te, rows, rfl, hp⟩ | ⟨rfl, rfl⟩
    · cases r with | ro _ _ _ base cap _ _ _ _ => exact ⟨base, cap, rfl⟩
    · obtain ⟨base, cap, h5, _⟩ := own_len (hs.hold n _ hp)
      cases r
      exact ⟨base, cap, h5⟩
    · cases r; exact ⟨none, 0, rfl⟩
  obtain ⟨base, cap, hy⟩ := hy
  unfold execOp
  simp [ho, resolve, invoke, builtin, hy, Builtin.len_, run_underlying ht, goInt]

/-- A contract: what a function answers of what is known, and what it does to the blocks it is told. -/
def Ok (P : Program) (f : FuncId) (args : List AV) (pre : Hp) (res : AV) (post : Hp) : Prop :=
  ∀ (ρ : Names) (D : Still) (w : World) (vals : List Value), Reps ρ D args vals → Sat (fun _ => True) ρ D pre w →
    Calls P f vals.toArray w fun e w' => ∃ ρ' D' v, e = .returned v ∧ Step (fun n => post n ≠ none ∧ pre n = none) pre post ρ D w ρ' D' w' ∧ Rep ρ' D' res v

/-- May it be called by its number? -/
def callable (P : Program) (f : FuncId) : Bool :=
  match P.funcs[f]? with
  | some fn => fn.name != "runtime.NumGoroutine" && fn.body.isSome
  | none => false
/-- What is called, and what is handed to it first and last. -/
def targetOf : AV → Option (FuncId × List AV × List AV)
  | .v (.func (.func f) a b) => if a.size = 0 ∧ b.size = 0 then some (f, [], []) else none
  | .fn (.func f) a b => some (f, a, b)
  | _ => none
theorem target_rep {f : FuncId} {fav : AV} {a1 a2 : List AV} {y : Value} (hf : targetOf fav = some (f, a1, a2)) (r1 : Rep ρ D fav y) : ∃ c d, y = .func (.func f) c d ∧ Reps ρ D a1 c.toList ∧ Reps ρ D a2 d.toList := by
  unfold targetOf at hf
  split at hf
  · split at hf
    · rename_i h
      cases hf
      cases r1
      rename_i c d
      have h1 : c = #[] := Array.eq_empty_of_size_eq_zero h.1
      have h2 : d = #[] := Array.eq_empty_of_size_eq_zero h.2
      subst h1
      subst h2
      exact ⟨#[], #[], rfl, .nil, .nil⟩
    · cases hf
  · cases hf
    cases r1 with
    | fn _ _ _ c d h1 h2 => exact ⟨_, _, rfl, by simpa using h1, by simpa using h2⟩
  · cases hf
theorem run_call {f : FuncId} {g : Operand} {xs : Array Operand} {ts : Array TypeId} {a : Act} {c d : Array Value} (ho : o.op = .call { callee := .value g, args := xs, argTypes := ts }) (hy : a.eval g = .func (.func f) c d) (hc : callable P f = true) :
    (execOp a.eval o).run P w = .ok (.enter f (c ++ xs.map a.eval ++ d)) w := by
  unfold callable at hc
  split at hc
  · rename_i fn hfn
    simp only [Bool.and_eq_true, bne_iff_ne, ne_eq] at hc
    have hb : fn.body.isNone = false := by
      cases hq : fn.body with
      | none => rw [hq] at hc; simp at hc
      | some _ => rfl
    have hp : ∀ w, (program : Sem Program).run P w = .ok P w := fun _ => rfl
    unfold execOp
    simp [ho, resolve, Deferred.ofValue, hy, invoke, callFunc, hp, hfn, hc.1]
    intro hq
    rw [hq] at hb
    cases hb
  · cases hc
theorem ok_call {f : FuncId} {g : Operand} {xs : Array Operand} {ts : Array TypeId} {fav : AV} {args a1 a2 : List AV} {post : Hp} (ho : o.op = .call { callee := .value g, args := xs, argTypes := ts }) (hf : targetOf fav = some (f, a1, a2)) (hc : callable P f = true)
    (hk : Ok P f (a1 ++ args ++ a2) pre out post) : OpOk P o (fav :: args) pre out post := by
  intro ρ D w a hr hs K Q hK
  rw [ho] at hr
  have hr' : Reps ρ D (fav :: args) (a.eval g :: xs.toList.map a.eval) := by simpa [Op.operands, Call.operands] using hr
  cases hr' with
  | cons r1 r2 =>
    obtain ⟨c, d, hy, hc1, hd1⟩ := target_rep hf r1
    unfold Oper.wp
    rw [run_call ho hy hc, Oper.upon_enter]
    have := hk ρ D w (c.toList ++ xs.toList.map a.eval ++ d.toList) ((hc1.append r2).append hd1) hs
    rw [show c ++ xs.map a.eval ++ d = (c.toList ++ xs.toList.map a.eval ++ d.toList).toArray by simp]
    refine this.mono fun e w' h => ?_
    obtain ⟨ρ', D', v, rfl, h1, h2⟩ := h
    exact hK v w' ρ' D' h1 h2

/-- A part of a tuple. -/
theorem ok_extract {x : Operand} {i : Nat} {vs : List AV} {c : AV} (ho : o.op = .extract x i) (hc : vs[i]? = some c) : OpOk P o [.tup vs] pre c pre := by
  refine ok_same fun ρ D w a hr _ => ?_
  rw [ho] at hr
  have r := reps_one hr
  generalize hy : a.eval x = y at r
  cases r with
  | tup _ l h =>
    obtain ⟨v, h1, h2⟩ := h.get i c hc
    exact ⟨v, by simp [execOp, ho, hy, Instr.extract, h1], h2⟩
/-- One of two. -/
theorem ok_pick {c x y : Operand} {t : Bool} {ax ay : AV} (ho : o.op = .pick c x y) : OpOk P o [.v (.bool t), ax, ay] pre (if t then ax else ay) pre := by
  refine ok_same fun ρ D w a hr _ => ?_
  rw [ho] at hr
  have hr' : Reps ρ D [.v (.bool t), ax, ay] [a.eval c, a.eval x, a.eval y] := hr
  cases hr' with
  | cons r1 r2 =>
    cases r2 with
    | cons r2 r3 =>
      cases r3 with
      | cons r3 _ =>
        generalize hy : a.eval c = z at r1
        cases r1
        cases t
        · exact ⟨_, by simp [execOp, ho, hy, asBool], r3⟩
        · exact ⟨_, by simp [execOp, ho, hy, asBool], r2⟩
/-- A value put into an interface. -/
def concrete (P : Program) (t : TypeId) : Bool := match P.underlying t with
  | some (.interface _) => false
  | some _ => true
  | none => false
theorem ok_iface {t : TypeId} {x : Operand} {av : AV} (ho : o.op = .makeInterface t x) (ht : concrete P t = true) : OpOk P o [av] pre (.ifc t av) pre := by
  refine ok_same fun ρ D w a hr _ => ?_
  rw [ho] at hr
  have e : (Instr.makeInterface t (a.eval x)).run P w = .ok (.iface t (a.eval x)) w := by
    unfold concrete at ht
    split at ht
    · cases ht
    · rename_i d hd hu
      simp only [Instr.makeInterface, Sem.run_bind, run_underlying hu, Result.andThen_ok]
      cases d <;> first | rfl | exact absurd rfl (hd _)
    · cases ht
  exact ⟨.iface t (a.eval x), by simp [execOp, ho, e], .ifc _ _ _ (reps_one hr)⟩
end
end Go.Proofs.YtahobmjchppciaaDoor.Sx
