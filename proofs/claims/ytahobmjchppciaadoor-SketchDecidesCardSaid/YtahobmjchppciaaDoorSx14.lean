/- What operations do to what is known, more: rows spelled out, and marked; bytes told as text; functions and structs made. -/
import Derived.Test.YtahobmjchppciaaDoorSx8
import Derived.Laws.BytesArg
import Derived.Laws.Tables
import Derived.Laws.StructEq
import Derived.Laws.Strings
namespace Go.Proofs.YtahobmjchppciaaDoor.Sx
open Go Go.RowKit
set_option linter.unusedVariables false
set_option linter.unusedSimpArgs false

section
variable {P : Program} {o : Oper} {avs : List AV} {pre : Hp} {out : AV} {ρ : Names} {D : Still} {w w' : World}

theorem foldl_size (off : Nat) : ∀ (l : List (Value × Nat)) (cs : Array Value), (l.foldl (fun cs (x : Value × Nat) => cs.setIfInBounds (off + x.2) x.1) cs).size = cs.size
  | [], _ => rfl
  | _ :: l, cs => by rw [List.foldl_cons, foldl_size off l, Array.size_setIfInBounds]
theorem fill_size (place : Nat → Option (Nat × Nat)) : ∀ (ps : List (Nat × Value)) (cells c : Array Value), Instr.fill place cells ps = some c → c.size = cells.size
  | [], _, _, h => by simp only [Instr.fill, Option.some.injEq] at h; rw [h]
  | (i, v) :: ps, cells, c, h => by
    simp only [Instr.fill] at h
    split at h
    · cases h
    · split at h
      · cases h
      · rw [fill_size place ps _ _ h, ← Array.foldl_toList]
        exact foldl_size _ _ _

def chunk (sz : Nat) : Nat → List Value → List (List Value)
  | 0, _ => []
  | k + 1, l => l.take sz :: chunk sz k (l.drop sz)
theorem chunk_ok {sz : Nat} : ∀ (k : Nat) (l : List Value), l.length = k * sz → (chunk sz k l).flatten = l ∧ (chunk sz k l).length = k ∧ ∀ r ∈ chunk sz k l, r.length = sz
  | 0, l, h => by
    have : l = [] := List.eq_nil_of_length_eq_zero (by simpa using h)
    subst this
    exact ⟨rfl, rfl, fun r hr => by cases hr⟩
  | k + 1, l, h => by
    rw [Nat.add_mul, Nat.one_mul] at h
    obtain ⟨h1, h2, h3⟩ := chunk_ok (sz := sz) k (l.drop sz) (by rw [List.length_drop]; omega)
    refine ⟨by simp only [chunk, List.flatten_cons, h1, List.take_append_drop], by simp only [chunk, List.length_cons, h2], fun r hr => ?_⟩
    rcases List.mem_cons.1 hr with rfl | hr
    · rw [List.length_take]; omega
    · exact h3 r hr

theorem plains_rep : ∀ {as : List AV} {vs vals : List Value}, Reps ρ D as vs → as.map plain? = vals.map some → vs = vals
  | _, _, vals, .nil, h => by cases vals with | nil => rfl | cons => cases h
  | _, _, vals, .cons h1 h2, h => by
    cases vals with
    | nil => cases h
    | cons y ys =>
      simp only [List.map_cons, List.cons.injEq] at h
      rw [plain_rep h.1 h1, plains_rep h2 h.2]

def litCells (sz len : Nat) (z : List Value) (ps : List (Nat × Value)) : Option (Array Value) := Instr.fill (fun i => some (i * sz, sz)) ((Array.range (len * sz)).map (z.toArray[· % z.toArray.size]!)) ps

theorem run_buildSlice {t e : TypeId} {i : TypeInfo} {z : Value} {len : Nat} (ps : Array (Nat × Value)) {cells : Array Value} (ht : P.underlying t = some (.slice e)) (hi : P.info? e = some i) (hz : i.zero = some z) (hl : len * i.size ≤ 2 ^ 24)
    (hc : litCells i.size len z.cells.toList ps.toList = some cells) : (Instr.buildSlice t len ps).run P w = .ok (.slice (some ⟨w.heap.size, 0, none⟩) len len) (w.alloc (.cells cells e)) := by
  have h1 : ¬ (2 ^ 24 < len * i.size) := by omega
  have h0 : ∀ f : Nat → Value, Array.map f (Array.range 0) = #[] := fun f => Array.eq_empty_of_size_eq_zero (by simp)
  unfold litCells at hc
  by_cases hn : len * i.size = 0
  · rw [hn, h0] at hc
    simp [Instr.buildSlice, run_underlying ht, sizeOf, typeInfo, hi, zeroValue, hz, hn, newRow, h0, hc]
  · simp only [Array.toArray_toList] at hc
    simp [Instr.buildSlice, run_underlying ht, sizeOf, typeInfo, hi, zeroValue, hz, hn, newRow]
    rw [if_neg (by simpa using h1)]
    simp [hc]

/-- A new row, spelled out. -/
theorem ok_buildSlice {t e : TypeId} {len sz bytes n : Nat} {parts : Array (Nat × Operand)} {z vals : List Value} {cells : Array Value} {ob : Ob} (ho : o.op = .buildSlice t len parts) (ht : ElemOk P t e sz bytes) (hz : (zeroOf P e).map (·.cells.toList) = some z) (hp : ∀ m, pre m = none)
    (hl : len * sz ≤ 2 ^ 24) (hv : avs.map plain? = vals.map some) (hc : litCells sz len z ((parts.toList.map (·.1)).zip vals) = some cells) (hob : ob = .row sz e len (chunk sz len cells.toList) ∨ ob = .lit sz e len (chunk sz len cells.toList)) :
    OpOk P o avs pre (.own n) (updH pre n (some ob)) := by
  intro ρ D w a hr hs K Q hK
  rw [ho] at hr
  have hvals := plains_rep hr hv
  obtain ⟨i, z', hi, hz', hsize, hzs, hb⟩ := ht.ok
  have hzz : z'.cells.toList = z := by
    unfold zeroOf at hz
    rw [hi] at hz
    simp only [Option.bind_some, hz', Option.map_some, Option.some.injEq] at hz
    exact hz
  have hps : (parts.map fun (i, x) => (i, a.eval x)).toList = (parts.toList.map (·.1)).zip vals := by
    rw [← hvals]
    simp only [Op.operands, Array.toList_map]
    induction parts.toList with
    | nil => rfl
    | cons p l ih => simp only [List.map_cons, List.zip_cons_cons, ih]
  have hcs : cells.size = len * sz := by
    have := fill_size _ _ _ _ hc
    simpa using this
  have e1 : (execOp a.eval o).run P w = .ok (.value (.slice (some ⟨w.heap.size, 0, none⟩) len len)) (w.alloc (.cells cells e)) := by
    have := run_buildSlice (w := w) (parts.map fun (i, x) => (i, a.eval x)) ht.ht hi hz' (by rw [hsize]; exact hl) (by rw [hps, hzz, hsize]; exact hc)
    unfold execOp
    simp only [ho, Sem.run_bind, this, Result.andThen_ok, Sem.run_pure]
  unfold Oper.wp
  rw [e1]
  obtain ⟨c1, c2, c3⟩ := chunk_ok (sz := sz) len cells.toList (by simpa using hcs)
  have hlen : len ≤ maxLen := by
    have := Nat.le_mul_of_pos_right len ht.pos
    simp only [maxLen]; omega
  refine hK _ _ _ D (Step.alloc (y := .slice (some ⟨w.heap.size, 0, none⟩) len len) hs hp (.inl rfl) ?_) ?_
  · rcases hob with rfl | rfl
    · refine ⟨ht.pos, c2, ?_, c3⟩
      rw [c1]
      have := World.ownsRow_lit (base := 0) (e := e) (size := sz) w cells len (Nat.zero_le _) hlen hcs
      simpa using this
    · refine ⟨ht.pos, c2, ⟨w.heap.size, (0, 0), if_pos rfl, ?_⟩, c3⟩
      rw [c1, Array.toArray_toList]
      exact alloc_new _ _
  · have := Rep.own (ρ := fun m => if m = n then Value.slice (some ⟨w.heap.size, 0, none⟩) len len else ρ m) (D := D) n (by rw [if_pos rfl]; rfl)
    rwa [if_pos rfl] at this

/-- Bytes told as a text. -/
theorem ok_str {src dst e : TypeId} {x : Operand} {sA : AV} {m : Nat} {rows : List (List Value)} {xs : List Int} (ho : o.op = .convert src dst x) (hs : P.underlying src = some (.slice e)) (he : P.underlying e = some (.int .u8)) (hd : P.underlying dst = some .string)
    (hA : srcRows pre 1 sA = some (m, rows)) (hx : rows.flatten = xs.map (Value.int .u8)) : OpOk P o [sA] pre (.v (.string (strOfNums xs))) pre := by
  refine ok_same fun ρ D w a hr h => ?_
  rw [ho] at hr
  have r := reps_one hr
  obtain ⟨⟨base, cap, hy, h1, h2⟩, h3, _⟩ := srcRows_ok h hA r
  have e1 : (execOp a.eval o).run P w = ((convert src dst (a.eval x)).run P w).andThen fun v w => .ok (.value v) w := by
    simp only [execOp, ho, Sem.run_bind]; rfl
  refine ⟨.string (strOfNums xs), ?_, .v _⟩
  rw [e1, hy, run_convert_bytes_string w src dst e _ _ _ hs he hd]
  cases base with
  | none =>
    obtain ⟨rfl, _⟩ := h1 rfl
    have : xs = [] := by
      have := congrArg List.length hx
      rw [h3] at this
      exact List.eq_nil_of_length_eq_zero (by simpa using this.symm)
    subst this
    simp [Conv.bytesToString]
    rfl
  | some ad =>
    have hl : (loadCells ad m).run P w = .ok (xs.map (Value.int .u8)).toArray w := by
      have := run_loadCells_list (P := P) w ad rows.flatten (h2 ad rfl)
      rw [h3, Nat.mul_one, hx] at this
      exact this
    rw [run_bytesToString w ad m cap xs hl, foldl_push_bytes]
    simp [strOfNums, ByteArray.empty, ByteArray.emptyWithCapacity]
    rfl

/-- A full row that is told to be a text's bytes. -/
theorem ok_mark {t e te : TypeId} {x : Operand} {n sz k : Nat} {rows : List (List Value)} (ho : o.op = .convert t t x) (hs : P.underlying t = some (.slice e)) (he : P.underlying e = some (.int .u8)) (hp : pre n = some (.lit sz te k rows)) :
    OpOk P o [.own n] pre (.own n) (updH pre n (some (.lit sz te k rows))) := by
  intro ρ D w a hr hs' K Q hK
  rw [ho] at hr
  have r := reps_one hr
  generalize hy : a.eval x = y at r
  obtain ⟨h0, hk, ⟨b, fr, h1, h2⟩, h3⟩ := hs'.hold n _ hp
  cases r with
  | own _ hone =>
    rw [h1] at hy
    have e1 : (execOp a.eval o).run P w = .ok (.value (ρ n)) (w.freeze ⟨b, rows.flatten.toArray.size, none⟩ 1) := by
      rw [h1]
      simp [execOp, ho, hy, convert, run_underlying hs, run_underlying he, markStringish, freeze, shape, Sem.run, World.shape?, h2]
    unfold Oper.wp
    rw [e1]
    have hf : ∃ fr', (w.freeze ⟨b, rows.flatten.toArray.size, none⟩ 1).heap[b]? = some (.cells rows.flatten.toArray te fr') := by
      simp only [World.freeze]
      rw [if_neg (by omega)]
      simp only [Array.getElem?_modify, if_true, h2, Option.map_some]
      exact ⟨_, rfl⟩
    obtain ⟨fr', hf⟩ := hf
    refine hK _ _ ρ D (Step.chg hs' (by rw [hp]; simp) (by rw [h1]; rfl) rfl rfl rfl (by simp [World.freeze]) (fun m hm => ?_) ⟨h0, hk, ⟨b, fr', h1, hf⟩, h3⟩) (.own _ hone)
    simp only [World.freeze]
    rw [if_neg (by omega)]
    simp only [Array.getElem?_modify]
    rw [if_neg (Ne.symm hm)]

theorem flat_len {sz : Nat} : ∀ (rows : List (List Value)), (∀ r ∈ rows, r.length = sz) → rows.flatten.length = rows.length * sz
  | [], _ => by simp
  | r :: rows, h => by
    rw [List.flatten_cons, List.length_append, h r (List.mem_cons_self ..), flat_len rows fun x hx => h x (List.mem_cons_of_mem _ hx), List.length_cons, Nat.add_mul]; omega

/-- Something is appended to a full row. -/
theorem ok_appendLit {t e te : TypeId} {x y : Operand} {sz bytes n n' k m : Nat} {sB : AV} {rows rows2 : List (List Value)} (ho : o.op = .call { callee := .builtin .append, args := #[x, y], argTypes := #[t, t] }) (ht : ElemOk P t e sz bytes)
    (hp : pre n = some (.lit sz te k rows)) (hB : srcRows pre sz sB = some (m, rows2)) (hm : 0 < m)
    (hn' : pre n' = none) (hu : ∀ m x, pre m = some x → x.uses n' = false) (h63 : k + m ≤ maxLen) (hbytes : (k + m) * bytes ≤ 140737488355328) :
    OpOk P o [.own n, sB] pre (.own n') (updH (updH pre n none) n' (some (.row sz e (k + m) (rows ++ rows2)))) := by
  intro ρ D w a hr hs K Q hK
  rw [ho] at hr
  obtain ⟨r1, r2⟩ := reps_two (x := x) (y := y) hr
  obtain ⟨i, z, hi, hz, hsize, hzs, hby⟩ := ht.ok
  obtain ⟨hy, hl, hlen2, hrl2⟩ := srcRows_ok hs hB r2
  obtain ⟨h0, hk, ⟨b, fr, h1, h2⟩, h3⟩ := hs.hold n _ hp
  have hax : a.eval x = .slice (some ⟨b, 0, none⟩) k k := by
    rw [← h1]
    generalize a.eval x = u at r1
    cases r1; rfl
  have hlen1 : rows.flatten.length = k * sz := by rw [← hk]; exact flat_len rows h3
  obtain ⟨base, cap, hy1, hy2, hy3⟩ := hy
  cases base with
  | none => have := (hy2 rfl).1; omega
  | some ad =>
    have h63' : k + m ≤ 9223372036854775807 := by simp only [maxLen] at h63; omega
    have hrun := run_append_grow (P := P) w t o.type e i z ht.ht hi hz ⟨b, 0, none⟩ k k rows.flatten (by rw [hlen1, hsize]) (fun j v hj => by
      rw [add_plain, Nat.zero_add]
      simp only [World.cell?, h2]
      simpa using hj) ad m cap rows2.flatten (by rw [hl, hsize]) (hy3 ad rfl) (by omega) (by omega) (growslice_fits (by omega) (by rw [hby]; exact hbytes))
    have e2 : (execOp a.eval o).run P w = .ok (.value (.slice (some ⟨w.heap.size, 0, none⟩) (k + m) (grownCap w (k + m) k e))) (w.drew.alloc (.cells (rows.flatten.toArray ++ rows2.flatten.toArray ++ Builtin.zeroCells z.cells (grownCap w (k + m) k e - (k + m))) e)) := by
      unfold execOp
      simp only [ho, resolve, invoke, builtin, Sem.run_bind, Sem.run_pure, Result.andThen_ok, List.map_toArray, List.map_cons, List.map_nil, hax, hy1, hrun]
    unfold Oper.wp
    rw [e2]
    have hge := grownCap_ge w (k + m) k e
    have hcm : grownCap w (k + m) k e ≤ maxLen := grownCap_le_maxLen w (k + m) k e h63
    refine hK _ _ _ D (Step.grow (n := n) (n' := n') (v := ρ n) hs (.inr ⟨by rw [hp]; simp, rfl⟩) hn' hu ⟨rfl, rfl, rfl, by simp, fun k hk _ => heap_alloc_old w.drew _ k hk⟩ (by rw [h1]; rfl) (.inr rfl) ⟨ht.pos, by simp [hk, hlen2], ⟨?_, .inr ⟨w.heap.size, grownCap w (k + m) k e, _, if_pos rfl, Nat.zero_le _, heap_alloc_new w.drew _, hge, hcm, ?_, ?_⟩⟩, fun r hr => ?_⟩) ?_
    · rw [List.flatten_append, List.length_append, hlen1, hl, Nat.add_mul]
    · simp only [Array.size_append, List.size_toArray, size_zeroCells, hzs, hlen1, hl, ← Nat.add_mul]
      congr 1
      omega
    · have hlen : (rows ++ rows2).flatten.length = (k + m) * sz := by rw [List.flatten_append, List.length_append, hlen1, hl, Nat.add_mul]
      simp only [Array.toList_append]
      rw [← List.flatten_append, ← hlen]
      exact List.take_left
    · rcases List.mem_append.1 hr with h | h
      · exact h3 r h
      · exact hrl2 r h
    · have := Rep.own (ρ := fun q => if q = n' then Value.slice (some ⟨w.heap.size, 0, none⟩) (k + m) (grownCap w (k + m) k e) else ρ q) (D := D) n' (by rw [if_pos rfl]; rfl)
      rwa [if_pos rfl] at this

theorem Reps.split : ∀ {as bs : List AV} {xs ys : List Value}, Reps ρ D (as ++ bs) (xs ++ ys) → as.length = xs.length → Reps ρ D as xs ∧ Reps ρ D bs ys
  | [], bs, [], ys, h, _ => ⟨.nil, h⟩
  | [], _, _ :: _, _, _, h => by cases h
  | _ :: _, _, [], _, _, h => by cases h
  | a :: as, bs, x :: xs, ys, .cons h1 h2, h => by
    obtain ⟨q1, q2⟩ := h2.split (by simpa using h)
    exact ⟨.cons h1 q1, q2⟩

/-- A function's value. -/
theorem ok_makeFunc {f : Fn} {xs ys : Array Operand} {as bs : List AV} (ho : o.op = .makeFunc f xs ys) (ha : as.length = xs.size) : OpOk P o (as ++ bs) pre (.fn f as bs) pre := by
  refine ok_same fun ρ D w a hr h => ?_
  rw [ho] at hr
  have hr' : Reps ρ D (as ++ bs) (xs.toList.map a.eval ++ ys.toList.map a.eval) := by simpa [Op.operands] using hr
  refine ⟨.func f (xs.toList.map a.eval).toArray (ys.toList.map a.eval).toArray, by
    have e : ∀ zs : Array Operand, (zs.toList.map a.eval).toArray = zs.map a.eval := fun zs => by rw [← Array.toList_map, Array.toArray_toList]
    rw [e, e]
    simp [execOp, ho, Instr.makeFunc], ?_⟩
  obtain ⟨h1, h2⟩ := hr'.split (by simpa using ha)
  exact .fn _ _ _ _ _ h1 h2
/-- A whole out of parts. -/
def fillL (place : Nat → Option (Nat × Nat)) (cells : List AV) : List (Nat × AV) → Option (List AV)
  | [] => some cells
  | (i, a) :: rest => match place i with
    | none => none
    | some (off, size) => if a.cells.length = size ∧ off + size ≤ cells.length ∧ a.cells.all AV.one = true then fillL place (cells.take off ++ a.cells ++ cells.drop (off + a.cells.length)) rest else none
theorem foldl_put (off : Nat) : ∀ (l : List Value) (k : Nat) (cs : List Value), off + k + l.length ≤ cs.length →
    ((l.zipIdx k).foldl (fun cs (x : Value × Nat) => cs.setIfInBounds (off + x.2) x.1) cs.toArray).toList = cs.take (off + k) ++ l ++ cs.drop (off + k + l.length)
  | [], k, cs, h => by simp
  | x :: l, k, cs, h => by
    simp only [List.length_cons] at h
    rw [List.zipIdx_cons, List.foldl_cons]
    have e1 : cs.toArray.setIfInBounds (off + k) x = (cs.set (off + k) x).toArray := by simp
    rw [e1, foldl_put off l (k + 1) (cs.set (off + k) x) (by rw [List.length_set]; omega)]
    have hs : cs.set (off + k) x = cs.take (off + k) ++ x :: cs.drop (off + k + 1) := by rw [List.set_eq_take_append_cons_drop, if_pos (by omega)]
    have hA : (cs.take (off + k)).length = off + k := by rw [List.length_take]; omega
    rw [hs, List.take_append, List.drop_append, hA, List.take_of_length_le (l := cs.take (off + k)) (by rw [hA]; omega), List.drop_eq_nil_of_le (as := cs.take (off + k)) (by rw [hA]; omega), show off + (k + 1) - (off + k) = 1 by omega, show off + (k + 1) + l.length - (off + k) = l.length + 1 by omega]
    simp only [List.take_succ_cons, List.take_zero, List.drop_succ_cons, List.nil_append, List.drop_drop, List.append_assoc, List.cons_append, List.length_cons]
    rw [show off + k + 1 + l.length = off + k + (l.length + 1) by omega]
theorem Reps.take : ∀ {as : List AV} {vs : List Value} (n : Nat), Reps ρ D as vs → Reps ρ D (as.take n) (vs.take n)
  | _, _, 0, _ => by simp only [List.take_zero]; exact .nil
  | _, _, n + 1, .nil => by simp only [List.take_nil]; exact .nil
  | _, _, n + 1, .cons h1 h2 => by simp only [List.take_succ_cons]; exact .cons h1 (h2.take n)
theorem Reps.drop : ∀ {as : List AV} {vs : List Value} (n : Nat), Reps ρ D as vs → Reps ρ D (as.drop n) (vs.drop n)
  | _, _, 0, h => by simpa using h
  | _, _, n + 1, .nil => by simp only [List.drop_nil]; exact .nil
  | _, _, n + 1, .cons h1 h2 => by simp only [List.drop_succ_cons]; exact h2.drop n
theorem fillL_ok (place : Nat → Option (Nat × Nat)) : ∀ (ps : List (Nat × AV)) (cells c : List AV) (vs xs : List Value), fillL place cells ps = some c → Reps ρ D cells vs → Reps ρ D (ps.map (·.2)) xs →
    ∃ us, Instr.fill place vs.toArray ((ps.map (·.1)).zip xs) = some us.toArray ∧ Reps ρ D c us
  | [], cells, c, vs, xs, h, hc, hp => by
    cases hp
    simp only [fillL, Option.some.injEq] at h
    subst h
    exact ⟨vs, rfl, hc⟩
  | (i, a) :: ps, cells, c, vs, xs, h, hc, hp => by
    cases hp with
    | @cons _ v _ xs h1 h2 =>
      simp only [fillL] at h
      split at h
      · cases h
      · rename_i off size hpl
        split at h
        · rename_i hq
          obtain ⟨q1, q2, q3⟩ := hq
          have hcr := cells_ok h1 q3
          have l1 := hcr.length
          have l2 := hc.length
          have e1 : v.cells.size = size := by rw [← q1, l1, Array.length_toList]
          have hput : ((v.cells.zipIdx.foldl (fun cs (x : Value × Nat) => cs.setIfInBounds (off + x.2) x.1) vs.toArray)) = (vs.take off ++ v.cells.toList ++ vs.drop (off + v.cells.toList.length)).toArray := by
            apply Array.ext'
            have := foldl_put off v.cells.toList 0 vs (by rw [Array.length_toList]; omega)
            simp only [Nat.add_zero] at this
            rw [← Array.foldl_toList, Array.toList_zipIdx, this]
          obtain ⟨us, g1, g2⟩ := fillL_ok place ps _ c (vs.take off ++ v.cells.toList ++ vs.drop (off + v.cells.toList.length)) xs h (by rw [l1]; exact ((hc.take off).append hcr).append (hc.drop _)) h2
          refine ⟨us, ?_, g2⟩
          simp only [List.map_cons, List.zip_cons_cons, Instr.fill, hpl]
          rw [if_neg (by simp only [List.size_toArray]; simp; omega)]
          exact (congrArg (fun y => Instr.fill place y _) hput).trans g1
        · cases h
def builtAV (P : Program) (t : TypeId) (parts : List (Nat × AV)) : Option (List AV) :=
  match P.info? t, P.underlying t with
  | some it, some (.array _ e) =>
    match it.zero, P.info? e with
    | some z, some ie => fillL (fun i => some (i * ie.size, ie.size)) (z.cells.toList.map .v) parts
    | _, _ => none
  | some it, some (.struct fields) =>
    match it.zero, fields.toList.mapM (fun f => (P.info? f.type).map fun i => (f.offset, i.size)) with
    | some z, some places => fillL (places.toArray[·]?) (z.cells.toList.map .v) parts
    | _, _ => none
  | _, _ => none
theorem reps_vs : ∀ (vs : List Value), Reps ρ D (vs.map .v) vs
  | [] => .nil
  | v :: vs => .cons (.v v) (reps_vs vs)
theorem ok_build {t : TypeId} {parts : Array (Nat × Operand)} {cs : List AV} (ho : o.op = .build t parts) (hc : builtAV P t ((parts.toList.map (·.1)).zip avs) = some cs) (hl : avs.length = parts.size) : OpOk P o avs pre (.agg cs) pre := by
  refine ok_same fun ρ D w a hr h => ?_
  rw [ho] at hr
  have hr' : Reps ρ D avs (parts.toList.map fun p => a.eval p.2) := by simpa [Op.operands, Function.comp_def] using hr
  have m2 : ((parts.toList.map (·.1)).zip avs).map (·.2) = avs := by rw [List.map_snd_zip]; simp [hl]
  have m1 : ((parts.toList.map (·.1)).zip avs).map (·.1) = parts.toList.map (·.1) := by rw [List.map_fst_zip]; simp [hl]
  have hps : (parts.map fun (i, x) => (i, a.eval x)).toList = (parts.toList.map (·.1)).zip (parts.toList.map fun p => a.eval p.2) := by
    simp only [Array.toList_map]
    induction parts.toList with
    | nil => rfl
    | cons p l ih => simp only [List.map_cons, List.zip_cons_cons, ih]
  have hb : ∃ us : List Value, P.built t (parts.map fun (i, x) => (i, a.eval x)).toList = some us.toArray ∧ Reps ρ D cs us := by
    rw [hps]
    unfold builtAV at hc
    unfold Program.built
    split at hc
    · rename_i it len e hi hu
      rw [hi, hu]
      split at hc
      · rename_i z ie hz hie
        simp only [hz, hie]
        obtain ⟨us, g1, g2⟩ := fillL_ok _ _ _ _ _ _ hc (reps_vs z.cells.toList) (by rw [m2]; exact hr')
        rw [m1] at g1
        exact ⟨us, by simpa using g1, g2⟩
      · cases hc
    · rename_i it fields hi hu
      rw [hi, hu]
      split at hc
      · rename_i z places hz hpl
        simp only [hz, hpl]
        obtain ⟨us, g1, g2⟩ := fillL_ok _ _ _ _ _ _ hc (reps_vs z.cells.toList) (by rw [m2]; exact hr')
        rw [m1] at g1
        exact ⟨us, by simpa using g1, g2⟩
      · cases hc
    · cases hc
  obtain ⟨us, h1, h2⟩ := hb
  refine ⟨.agg us.toArray, ?_, .agg _ _ h2⟩
  have := run_build (P := P) w t _ _ h1
  unfold execOp
  simp only [ho, Sem.run_bind, this, Result.andThen_ok, Sem.run_pure]
end
end Go.Proofs.YtahobmjchppciaaDoor.Sx
namespace Go.Proofs.YtahobmjchppciaaDoor.Sx
open Go Go.RowKit
set_option linter.unusedVariables false
/-- Are two values of a type of one cell the same? -/
def eqOne : TypeDesc → Value → Value → Option Bool
  | .int _, .int k a, .int k' b => if k = k' then some (a == b) else none
  | .bool, .bool a, .bool b => some (a == b)
  | .string, .string a, .string b => some (a == b)
  | _, _, _ => none
/-- Are two structs the same, all whose fields are whole numbers, truths, texts? -/
def eqFlat (P : Program) (xs ys : Array Value) : List Field → Option Bool
  | [] => some true
  | f :: fs => if f.name = "_" then none else
    match P.underlying f.type, xs[f.offset]?, ys[f.offset]? with
    | some d, some x, some y => (eqOne d x y).bind fun b => match fs with
      | [] => some b
      | fs => (eqFlat P xs ys fs).map (b && ·)
    | _, _, _ => none
theorem eqOne_run {P : Program} {w : World} {t : TypeId} {td : TypeDesc} {x y : Value} {b : Bool} (d : Nat) (hu : P.underlying t = some td) (h : eqOne td x y = some b) : (Op.equalIn (d + 1) t x y).run P w = .ok b w ∧ ∀ (cs : Array Value) (off : Nat) (v : Value), cs[off]? = some v → (part t cs off).run P w = .ok v w := by
  unfold eqOne at h
  split at h
  · split at h
    · rename_i hk
      cases h
      exact ⟨by simp [Op.equalIn, run_underlying hu, hk], fun cs off v hv => by simp [part, isAgg, run_underlying hu, hv]⟩
    · cases h
  · cases h
    exact ⟨by simp [Op.equalIn, run_underlying hu], fun cs off v hv => by simp [part, isAgg, run_underlying hu, hv]⟩
  · cases h
    exact ⟨by simp [Op.equalIn, run_underlying hu], fun cs off v hv => by simp [part, isAgg, run_underlying hu, hv]⟩
  · cases h
theorem eqFlat_run {P : Program} {w : World} {xs ys : Array Value} (d : Nat) : ∀ (fs : List Field) (b : Bool), eqFlat P xs ys fs = some b → (Op.eqFields (d + 1) xs ys fs).run P w = .ok b w
  | [], b, h => by simp only [eqFlat, Option.some.injEq] at h; subst h; simp [Op.eqFields]
  | f :: fs, b, h => by
    unfold eqFlat at h
    split at h
    · cases h
    · rename_i hn
      split at h
      · rename_i td x y hu hx hy
        obtain ⟨r, h1, h2⟩ := Option.bind_eq_some_iff.1 h
        obtain ⟨q1, q2⟩ := eqOne_run (w := w) d hu h1
        simp only [Op.eqFields, hn, ne_eq, not_false_eq_true, if_true, Sem.run_bind, q2 _ _ _ hx, q2 _ _ _ hy, q1, Result.andThen_ok]
        split at h2
        · obtain rfl := Option.some.inj h2
          cases r <;> simp [Op.eqFields]
        · obtain ⟨r2, h3, rfl⟩ := Option.map_eq_some_iff.1 h2
          have := eqFlat_run (w := w) d _ r2 h3
          cases r
          · simp
          · simp [this]
      · cases h
/-- Two structs compared. -/
theorem ok_eqFlat {P : Program} {o : Oper} {pre : Hp} {t t' : TypeId} {op : BinOp} {x y : Operand} {as bs : List AV} {xs ys : List Value} {b : Bool} (ho : o.op = .binOp op t x y t') (hop : op = .eql ∨ op = .neq) (hu : P.underlying t = some (.struct (P.fieldsOf t))) (hs : P.stoodInHeld t = false) (hg : P.eqGuardType P.depth t = false)
    (ha : plain?.plainL as = some xs) (hb : plain?.plainL bs = some ys) (he : eqFlat P xs.toArray ys.toArray (P.fieldsOf t).toList = some b) : OpOk P o [.agg as, .agg bs] pre (.v (.bool (if op = .neq then !b else b))) pre := by
  refine ok_same fun ρ D w ac hr _ => ⟨.bool (if op = .neq then !b else b), ?_, .v _⟩
  rw [ho] at hr
  obtain ⟨r1, r2⟩ := reps_two (x := x) (y := y) hr
  have e1 := plain_rep (a := .agg as) (x := .agg xs.toArray) (by simp [plain?, ha]) r1
  have e2 := plain_rep (a := .agg bs) (x := .agg ys.toArray) (by simp [plain?, hb]) r2
  have h1 : (Op.equal t (.agg xs.toArray) (.agg ys.toArray)).run P w = .ok b w := by
    unfold Op.equal
    rw [show Op.maxDepth = 9999 + 1 from rfl, run_equalIn_struct w 9999 t _ _ hu hs]
    exact eqFlat_run 9998 _ _ he
  have h2 : (eqGuard op t x y (.agg xs.toArray) (.agg ys.toArray)).run P w = .ok () w := by
    rcases hop with rfl | rfl <;> simp [eqGuard, hg]
  unfold execOp
  simp only [ho, e1, e2, Sem.run_bind, h2, Result.andThen_ok]
  rcases hop with rfl | rfl
  · simp [binOp, h1]
  · simp [binOp, h1]
end Go.Proofs.YtahobmjchppciaaDoor.Sx
namespace Go.Proofs.YtahobmjchppciaaDoor.Sx
open Go Go.RowKit
/-- A text's byte. -/
def sByte (s : ByteArray) (i : Int) : Int := ((s.data.toList.getD i.toNat 0).toNat : Int)
theorem ok_strIndex {P : Program} {o : Oper} {pre : Hp} {t : TypeId} {x y : Operand} {s : ByteArray} {k : IntKind} {i : Int} (ho : o.op = .index t x y) (ht : P.underlying t = some .string) (hi : 0 ≤ i ∧ i < s.size) : OpOk P o [.v (.string s), .v (.int k i)] pre (.v (.int .u8 (sByte s i))) pre := by
  refine ok_same fun ρ D w ac hr _ => ⟨_, ?_, .v _⟩
  rw [ho] at hr
  obtain ⟨r1, r2⟩ := reps_two (x := x) (y := y) hr
  generalize h1 : ac.eval x = u at r1
  generalize h2 : ac.eval y = v at r2
  cases r1; cases r2
  have e : sByte s i = ((s[i.toNat]'(by omega)).toNat : Int) := by
    unfold sByte
    have hl : i.toNat < s.data.toList.length := by have := hi.2; rw [Array.length_toList]; show i.toNat < s.size; omega
    rw [List.getD_eq_getElem?_getD, List.getElem?_eq_getElem hl]
    rfl
  unfold execOp
  simp only [ho, h1, h2, Sem.run_bind, run_index_string w t s k i ht, dif_pos hi, Result.andThen_ok, Sem.run_pure, e]
end Go.Proofs.YtahobmjchppciaaDoor.Sx
