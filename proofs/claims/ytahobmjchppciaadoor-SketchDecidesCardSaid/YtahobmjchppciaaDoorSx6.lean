/- What operations do to what is known: stores, new blocks, addresses, slices. -/
import Derived.Test.YtahobmjchppciaaDoorSx5
namespace Go.Proofs.YtahobmjchppciaaDoor.Sx
open Go Go.RowKit
set_option linter.unusedVariables false
set_option linter.unusedSimpArgs false

def updH (H : Hp) (n : Nat) (x : Option Ob) : Hp := fun m => if m = n then x else H m
theorem updH_same (H : Hp) (n : Nat) (x : Option Ob) : updH H n x n = x := if_pos rfl
theorem updH_other (H : Hp) {n m : Nat} (x : Option Ob) (h : m ≠ n) : updH H n x m = H m := if_neg h

section
variable {P : Program} {o : Oper} {avs : List AV} {pre : Hp} {out : AV} {ρ : Names} {D : Still} {w w' : World}

/-- One block is another one. -/
theorem Step.chg {nw : Nat → Prop} {n b : Nat} {ob : Ob} (s : Sat (fun _ => True) ρ D pre w) (hp : pre n ≠ none) (hb : blk (ρ n) = some b) (hos : w'.os = w.os) (htp : w'.tape = w.tape) (hout : w'.output = w.output) (hsz : w'.heap.size = w.heap.size)
    (hk : ∀ k, k ≠ b → w'.heap[k]? = w.heap[k]?) (hh : Holds ρ D w' n ob) : Step nw pre (updH pre n (some ob)) ρ D w ρ D w' := by
  have hne : ∀ m, updH pre n (some ob) m ≠ none → pre m ≠ none := by
    intro m hm
    by_cases e : m = n
    · rw [e]; exact hp
    · rwa [updH_other _ _ e] at hm
  refine ⟨⟨hos, htp, hout, by omega, fun k _ hn => hk k (fun e => hn ⟨n, hp, by rw [e]; exact hb⟩)⟩, fun _ _ => rfl, Still.le_refl D, fun b h1 h2 => absurd h1 h2, ⟨fun m x hm => ?_, fun m m' b' h1 h2 => s.inj m m' b' (hne m h1) (hne m' h2), fun m b' h1 h2 => ⟨(s.dis m b' (hne m h1) h2).1, .inl ⟨m, hne m h1, h2⟩⟩, fun b' x hx => ?_, s.glob⟩⟩
  · by_cases e : m = n
    · subst e
      rw [updH_same] at hm
      obtain rfl := Option.some.inj hm
      exact hh
    · rw [updH_other _ _ e] at hm
      exact Holds.mono (Still.le_refl D) rfl (fun _ _ => rfl) (fun b' hb' => hk b' (fun e' => s.inj m n b (by rw [hm]; simp) hp e (e' ▸ hb') hb)) (s.hold m x hm)
  · refine (hk b' fun e => ?_).trans (s.still b' x hx)
    have := (s.dis n b hp hb).1
    rw [← e, hx] at this
    cases this

theorem alloc_new (w : World) (x : Obj) : (w.alloc x).heap[w.heap.size]? = some x := by
  show (w.heap.push x)[w.heap.size]? = some x
  simp
theorem alloc_old (w : World) (x : Obj) {k : Nat} (h : k ≠ w.heap.size) : (w.alloc x).heap[k]? = w.heap[k]? := by
  show (w.heap.push x)[k]? = _
  rw [Array.getElem?_push, if_neg h]

/-- A new block. -/
theorem Step.alloc {n : Nat} {ob : Ob} {x : Obj} {y : Value} (s : Sat (fun _ => True) ρ D pre w) (hp : ∀ m, pre m = none) (hy : blk y = some w.heap.size ∨ blk y = none) (hh : Holds (fun m => if m = n then y else ρ m) D (w.alloc x) n ob) :
    Step (fun m => updH pre n (some ob) m ≠ none ∧ pre m = none) pre (updH pre n (some ob)) ρ D w (fun m => if m = n then y else ρ m) D (w.alloc x) := by
  have hD : D w.heap.size = none := by
    cases hc : D w.heap.size with
    | none => rfl
    | some z =>
      have := s.still _ _ hc
      rw [Array.getElem?_eq_none (Nat.le_refl _)] at this
      cases this
  have only : ∀ m, updH pre n (some ob) m ≠ none → m = n := by
    intro m hm
    apply Classical.byContradiction
    intro e
    rw [updH_other _ _ e, hp] at hm
    exact hm rfl
  refine ⟨⟨rfl, rfl, rfl, by show w.heap.size ≤ (w.heap.push x).size; simp, fun k hk _ => alloc_old w x (by omega)⟩, fun m hm => ?_, Still.le_refl D, fun b h1 h2 => absurd h1 h2, ⟨fun m z hm => ?_, fun m m' b h1 h2 h3 => ?_, fun m b h1 h2 => ?_, fun b z hz => ?_, s.glob⟩⟩
  · refine if_neg fun e => hm ⟨?_, hp m⟩
    rw [e, updH_same]; simp
  · obtain rfl := only m (by rw [hm]; simp)
    rw [updH_same] at hm
    obtain rfl := Option.some.inj hm
    exact hh
  · exact absurd ((only m h1).trans (only m' h2).symm) h3
  · obtain rfl := only m h1
    rw [if_pos rfl] at h2
    rcases hy with hy | hy
    · rw [hy] at h2
      obtain rfl := Option.some.inj h2
      exact ⟨hD, .inr (Nat.le_refl _)⟩
    · rw [hy] at h2; cases h2
  · refine (alloc_old w x ?_).trans (s.still b z hz)
    intro e
    rw [e, hD] at hz
    cases hz

theorem reps_two {a b : AV} {f : Operand → Value} {x y : Operand} (h : Reps ρ D [a, b] ([x, y].map f)) : Rep ρ D a (f x) ∧ Rep ρ D b (f y) := by
  cases h with | cons h1 h2 => cases h2 with | cons h2 _ => exact ⟨h1, h2⟩

/-- A store into a block's cells. -/
theorem ok_store {t : TypeId} {x y : Operand} {n off : Nat} {cs : List AV} {te : TypeId} {c : AV} {k : Option Nat} (ho : o.op = .store t x y) (ht : aggOf P t = some k) (hp : pre n = some (.cells cs te)) (hk : c.cells.length = k.getD 1) (hc : c.cells.all AV.one = true) (hl : off + c.cells.length ≤ cs.length) :
    OpOk P o [.ptr n off, c] pre (.v undef) (updH pre n (some (.cells (cs.take off ++ c.cells ++ cs.drop (off + c.cells.length)) te))) := by
  intro ρ D w a hr hs K Q hK
  rw [ho] at hr
  obtain ⟨r1, r2⟩ := reps_two hr
  have hh := hs.hold n _ hp
  have hcv := cells_ok r2 hc
  have hones := ones_ok hcv hc
  generalize hy : a.eval x = y1 at r1
  cases r1 with
  | ptr _ _ b hb =>
    obtain ⟨vs, h1, h2, h3⟩ := holds_cells hh hb
    have l1 := h2.length
    have l2 := hcv.length
    have hst := run_store ht (w := w) (g := b) (off := off) (cur := vs.toArray) (te := te) (v := a.eval y) (by simpa [← hk, Array.length_toList] using l2.symm) h1 (by simp [Array.length_toList] at l2 ⊢; omega) hones
    have e : (execOp a.eval o).run P w = .ok .skip (w.setRow b (vs.take off ++ (a.eval y).cells.toList ++ vs.drop (off + c.cells.length)).toArray) := by
      have hsz : (a.eval y).cells.size = c.cells.length := by simpa [Array.length_toList] using l2.symm
      rw [hsz] at hst
      simp [execOp, ho, hy, Instr.storeAt, Instr.sureAddr, hst]
    unfold Oper.wp
    rw [e]
    refine hK undef _ ρ D (Step.chg hs (by rw [hp]; simp) (by rw [hb]; rfl) rfl rfl rfl (by simp [World.setRow]) (fun m hm => setRow_other _ _ _ _ hm) ⟨b, _, hb, setRow_heap _ _ _ _ _ _ h1, ?_, ?_⟩) (.v _)
    · exact ((Reps.append (by simpa using reps_part h2 0 off) hcv).append (by
        have := reps_part h2 (off + c.cells.length) (cs.length)
        rw [List.take_of_length_le (by simp), List.take_of_length_le (by simp; omega)] at this
        exact this))
    · rw [List.all_eq_true] at h3 ⊢
      intro z hz
      rcases List.mem_append.1 hz with hz | hz
      · rcases List.mem_append.1 hz with hz | hz
        · exact h3 z (List.mem_of_mem_take hz)
        · exact hones z hz
      · exact h3 z (List.mem_of_mem_drop hz)

/-- A new variable that holds a value. -/
theorem ok_box {t : TypeId} {x : Operand} {c : AV} {n : Nat} (ho : o.op = .box t x) (hp : ∀ m, pre m = none) (hc : c.cells.all AV.one = true) (hu : AV.uses.usesL n c.cells = false) :
    OpOk P o [c] pre (.ptr n 0) (updH pre n (some (.cells c.cells t))) := by
  intro ρ D w a hr hs K Q hK
  rw [ho] at hr
  have r := reps_one hr
  have hcv := cells_ok r hc
  have hones := ones_ok hcv hc
  have e : (execOp a.eval o).run P w = .ok (.value (.pointer (some ⟨w.heap.size, 0, none⟩))) (w.alloc (.cells (a.eval x).cells t)) := by
    simp [execOp, ho, Instr.box, newVar, newRow]
  unfold Oper.wp
  rw [e]
  refine hK _ _ (fun m => if m = n then .pointer (some ⟨w.heap.size, 0, none⟩) else ρ m) D (Step.alloc hs hp (.inl rfl) ⟨w.heap.size, (a.eval x).cells.toList, if_pos rfl, by rw [alloc_new], ?_, ?_⟩) (.ptr _ _ _ (if_pos rfl))
  · exact Reps.mono (Still.le_refl D) _ _ (fun m hm => if_neg fun e => by rw [e, hu] at hm; cases hm) hcv
  · rw [List.all_eq_true]; exact hones

def zeroOf (P : Program) (t : TypeId) : Option Value := (P.info? t).bind (·.zero)
theorem ok_alloc {t : TypeId} {z : Value} {n : Nat} (ho : o.op = .alloc t) (hz : zeroOf P t = some z) (hp : ∀ m, pre m = none) (hc : z.cells.all (·.oneCell') = true) :
    OpOk P o [] pre (.ptr n 0) (updH pre n (some (.cells (z.cells.toList.map .v) t))) := by
  intro ρ D w a hr hs K Q hK
  have e : (execOp a.eval o).run P w = .ok (.value (.pointer (some ⟨w.heap.size, 0, none⟩))) (w.alloc (.cells z.cells t)) := by
    unfold zeroOf at hz
    obtain ⟨i, h1, h2⟩ := Option.bind_eq_some_iff.1 hz
    simp [execOp, ho, Instr.alloc, zeroValue, typeInfo, h1, h2, newVar, newRow]
  unfold Oper.wp
  rw [e]
  refine hK _ _ (fun m => if m = n then .pointer (some ⟨w.heap.size, 0, none⟩) else ρ m) D (Step.alloc hs hp (.inl rfl) ⟨w.heap.size, z.cells.toList, if_pos rfl, by rw [alloc_new], reps_v _, ?_⟩) (.ptr _ _ _ (if_pos rfl))
  rw [List.all_eq_true]
  rw [Array.all_eq_true_iff_forall_mem] at hc
  exact fun x hx => hc x (by simpa using hx)

/-- Where a field begins. -/
def fieldOff (P : Program) (s : TypeId) (f : Nat) : Option Nat :=
  match P.underlying s with
  | some (.struct fields) => (fields[f]?).bind fun fd => (P.info? fd.type).bind fun i => if i.size = 0 then none else some fd.offset
  | _ => none
def AV.shift (k : Nat) : AV → Option AV
  | .ptr n off => some (.ptr n (off + k))
  | .roe row off => some (.roe row (off + k))
  | .oe n sz i off => some (.oe n sz i (off + k))
  | _ => none
theorem shift_ok {a a' : AV} {v : Value} {k : Nat} (h : a.shift k = some a') (r : Rep ρ D a v) : ∃ ad, v = .pointer (some ad) ∧ Rep ρ D a' (.pointer (some (ad.add k))) := by
  cases r with
  | ptr n off b hb => cases h; exact ⟨_, rfl, by rw [add_plain]; exact .ptr _ _ _ hb⟩
  | roe row b o off cells t fr h1 h2 => cases h; exact ⟨_, rfl, by rw [add_plain, Nat.add_assoc]; exact .roe _ _ _ _ _ _ _ h1 h2⟩
  | oe n sz i off b len cap hb => cases h; exact ⟨_, rfl, by rw [add_plain, Nat.add_assoc]; exact .oe _ _ _ _ _ _ _ hb⟩
  | _ => simp [AV.shift] at h
theorem ok_fieldAddr {s : TypeId} {x : Operand} {f k : Nat} {av av' : AV} (ho : o.op = .fieldAddr s x f) (hf : fieldOff P s f = some k) (ha : av.shift k = some av') : OpOk P o [av] pre av' pre := by
  refine ok_same fun ρ D w a hr _ => ?_
  rw [ho] at hr
  obtain ⟨ad, h1, h2⟩ := shift_ok ha (reps_one hr)
  refine ⟨_, ?_, h2⟩
  unfold fieldOff at hf
  split at hf
  · rename_i fields hu
    obtain ⟨fd, h3, h4⟩ := Option.bind_eq_some_iff.1 hf
    obtain ⟨i, h5, h6⟩ := Option.bind_eq_some_iff.1 h4
    split at h6
    · cases h6
    · rename_i hne
      obtain rfl := Option.some.inj h6
      have e : (fieldPlace ad fd).run P w = .ok (ad.add fd.offset) w := by simp [fieldPlace, sizeOf, typeInfo, h5, hne]
      simp [execOp, ho, h1, Instr.fieldAt, Instr.sureAddr, run_underlying hu, h3, e]
  · cases hf

/-- An index into an array that stands at an address. -/
theorem ok_indexArr {t elem : TypeId} {x y : Operand} {len c sz : Nat} {kd : IntKind} {i : Int} {av av' : AV} (ho : o.op = .indexAddr t x y) (ht : P.underlying t = some (.array len elem)) (hs : (P.info? elem).map (·.size) = some sz)
    (hi : i = (c : Int)) (hc : c < len) (ha : av.shift (c * sz) = some av') : OpOk P o [av, .v (.int kd i)] pre av' pre := by
  refine ok_same fun ρ D w a hr _ => ?_
  rw [ho] at hr
  obtain ⟨r1, r2⟩ := reps_two hr
  obtain ⟨ad, h1, h2⟩ := shift_ok ha r1
  refine ⟨_, ?_, h2⟩
  generalize hv : a.eval y = v at r2
  cases r2
  obtain ⟨inf, h3, h4⟩ := Option.map_eq_some_iff.1 hs
  subst hi
  have hb : (0 : Int) ≤ (c : Int) ∧ (c : Int) < (len : Int) := by omega
  simp [execOp, ho, h1, hv, Instr.indexAt, asIntOf, run_underlying ht, Instr.sureAddr, hb, sizeOf, typeInfo, h3, h4]
  intro h; omega

/-- An index into a slice that is only read. -/
theorem ok_indexRo {t elem : TypeId} {x y : Operand} {sz k : Nat} {kd : IntKind} {i : Int} {rows : List (List Value)} {e : List Value} (ho : o.op = .indexAddr t x y) (ht : P.underlying t = some (.slice elem)) (hs : (P.info? elem).map (·.size) = some sz)
    (h0 : 0 ≤ i) (hi : rows[i.toNat]? = some e) : OpOk P o [.ro sz k rows, .v (.int kd i)] pre (.roe e 0) pre := by
  refine ok_same fun ρ D w a hr _ => ?_
  rw [ho] at hr
  obtain ⟨r1, r2⟩ := reps_two hr
  generalize hu : a.eval x = u at r1
  generalize hv : a.eval y = v at r2
  cases r2
  obtain ⟨inf, h3, h4⟩ := Option.map_eq_some_iff.1 hs
  have hlt : i.toNat < rows.length := (List.getElem?_eq_some_iff.1 hi).1
  cases r1 with
  | ro _ _ _ base cap h1 hk h2 _ =>
    rcases h1 with h1 | ⟨b, o', cells, te, fr, h5, h6, h7⟩
    · subst h1; simp at hlt
    · subst h5
      have hb : (0 : Int) ≤ i ∧ i < (k : Int) := by omega
      refine ⟨_, ?_, .roe e b (o' + i.toNat * sz) 0 cells te fr h6 fun j z hz => ?_⟩
      · simp [execOp, ho, hu, hv, Instr.indexAt, asIntOf, run_underlying ht, hb, sizeOf, typeInfo, h3, h4, add_plain]
      · exact (h7 i.toNat e hi).2 j z hz

theorem own_len {sz k : Nat} {e : TypeId} {rows : List (List Value)} {n : Nat} (h : Holds ρ D w n (.row sz e k rows)) : ∃ base cap, ρ n = .slice base k cap ∧ k ≤ cap ∧ (base = none → rows = [] ∧ cap = 0) ∧ (∀ ad, base = some ad → ∃ b cur, ad = ⟨b, 0, none⟩ ∧ w.heap[b]? = some (.cells cur e (0, 0)) ∧ cur.size = cap * sz ∧ cur.toList.take (k * sz) = rows.flatten) := by
  obtain ⟨h0, hk, ⟨h1, h2⟩, h3⟩ := h
  rcases h2 with ⟨h2, h4⟩ | ⟨g, cap, cur, a1, a2, a3, a4, a5, a6, a7⟩
  · subst h4
    exact ⟨none, 0, h2, Nat.le_refl _, fun _ => ⟨List.eq_nil_of_length_eq_zero hk, rfl⟩, fun ad h => by cases h⟩
  · exact ⟨_, cap, a1, a4, (fun h => by cases h), fun ad h => by cases h; exact ⟨g, cur, rfl, a3, a6, a7⟩⟩

/-- An index into a named row. -/
theorem ok_indexOwn {t elem : TypeId} {x y : Operand} {sz n k : Nat} {te : TypeId} {kd : IntKind} {i : Int} {rows : List (List Value)} (ho : o.op = .indexAddr t x y) (ht : P.underlying t = some (.slice elem)) (hs : (P.info? elem).map (·.size) = some sz)
    (hp : pre n = some (.row sz te k rows)) (h0 : 0 ≤ i) (hi : i < (k : Int)) : OpOk P o [.own n, .v (.int kd i)] pre (.oe n sz i.toNat 0) pre := by
  refine ok_same fun ρ D w a hr hs' => ?_
  rw [ho] at hr
  obtain ⟨r1, r2⟩ := reps_two hr
  generalize hu : a.eval x = u at r1
  generalize hv : a.eval y = v at r2
  cases r2
  obtain ⟨inf, h3, h4⟩ := Option.map_eq_some_iff.1 hs
  have hh := hs'.hold n _ hp
  have hkl := hh.2.1
  obtain ⟨base, cap, h5, h6, h7, h8⟩ := own_len hh
  cases r1 with
  | own _ h1 =>
    cases base with
    | none => have h9 := (h7 rfl).1; subst h9; simp at hkl; omega
    | some ad =>
      obtain ⟨b, cur, rfl, h9, h10, h11⟩ := h8 ad rfl
      have hb : (0 : Int) ≤ i ∧ i < (k : Int) := ⟨h0, hi⟩
      rw [h5] at hu
      refine ⟨_, ?_, .oe n sz i.toNat 0 b k cap h5⟩
      simp [execOp, ho, hu, hv, Instr.indexAt, asIntOf, run_underlying ht, hb, sizeOf, typeInfo, h3, h4, add_plain]

theorem flatten_get {sz : Nat} : ∀ (l : List (List Value)), (∀ x ∈ l, x.length = sz) → ∀ (i : Nat) (e : List Value), l[i]? = some e → ∀ j, j < sz → l.flatten[i * sz + j]? = e[j]?
  | [], _, i, e, h, _, _ => by simp at h
  | y :: l, hl, 0, e, h, j, hj => by
    simp at h; subst h
    have := hl y (List.mem_cons_self ..)
    simp only [List.flatten_cons, Nat.zero_mul, Nat.zero_add]
    rw [List.getElem?_append_left (by omega)]
  | y :: l, hl, i + 1, e, h, j, hj => by
    have h1 := hl y (List.mem_cons_self ..)
    have ih := flatten_get l (fun x hx => hl x (List.mem_cons_of_mem _ hx)) i e (by simpa using h) j hj
    simp only [List.flatten_cons]
    rw [List.getElem?_append_right (by rw [h1, Nat.add_mul]; omega), ← ih, h1]
    congr 1
    rw [Nat.add_mul]; omega
theorem own_cell {sz k : Nat} {e : TypeId} {rows : List (List Value)} {n b len cap : Nat} {ad : Nat} (h : Holds ρ D w n (.row sz e k rows)) (hn : ρ n = .slice (some ⟨b, ad, none⟩) len cap) {i : Nat} {x : List Value} (hi : rows[i]? = some x) {j : Nat} {y : Value} (hj : x[j]? = some y) : w.cell? ⟨b, i * sz + j, none⟩ = some y := by
  have hsz := h.2.2.2 x (List.mem_of_getElem? hi)
  have hjs : j < sz := by have := (List.getElem?_eq_some_iff.1 hj).1; omega
  have hlt : i < rows.length := (List.getElem?_eq_some_iff.1 hi).1
  have hf := flatten_get rows h.2.2.2 i x hi j hjs
  obtain ⟨base, cap', h5, h6, h7, h8⟩ := own_len h
  rw [hn] at h5
  cases h5
  obtain ⟨b', cur, h9, h10, h11, h12⟩ := h8 _ rfl
  cases h9
  rw [hj, ← h12, List.getElem?_take] at hf
  split at hf
  · simp only [World.cell?, h10]
    simpa using hf
  · cases hf
/-- A named row's element is read. -/
theorem ok_load_oe_one {t : TypeId} {x : Operand} {n sz i off k : Nat} {te : TypeId} {rows : List (List Value)} {e : List Value} {c : Value} (ho : o.op = .load t x) (ht : aggOf P t = some none) (hp : pre n = some (.row sz te k rows)) (hi : rows[i]? = some e) (hc : e[off]? = some c) : OpOk P o [.oe n sz i off] pre (.v c) pre := by
  refine ok_same fun ρ D w a hr hs => ?_
  rw [ho] at hr
  have r := reps_one hr
  have hh := hs.hold n _ hp
  generalize hy : a.eval x = y at r
  cases r with
  | oe _ _ _ _ b len cap hb =>
    refine ⟨c, ?_, .v _⟩
    have := run_load_one ht (own_cell hh hb hi hc)
    simp [execOp, ho, hy, Instr.loadAt, Instr.sureAddr, this]
theorem ok_load_oe_agg {t : TypeId} {x : Operand} {n sz i off m k : Nat} {te : TypeId} {rows : List (List Value)} {e : List Value} (ho : o.op = .load t x) (ht : aggOf P t = some (some m)) (hp : pre n = some (.row sz te k rows)) (hi : rows[i]? = some e) (hk : off + m ≤ e.length) : OpOk P o [.oe n sz i off] pre (.agg (((e.drop off).take m).map .v)) pre := by
  refine ok_same fun ρ D w a hr hs => ?_
  rw [ho] at hr
  have r := reps_one hr
  have hh := hs.hold n _ hp
  generalize hy : a.eval x = y at r
  cases r with
  | oe _ _ _ _ b len cap hb =>
    refine ⟨_, ?_, .agg _ _ (reps_v _)⟩
    have := run_load_agg ht (w := w) (ad := ⟨b, i * sz + off, none⟩) (cs := (e.drop off).take m) (by simp; omega) (fun j v hj => by
      rw [add_plain]
      rw [List.getElem?_take] at hj
      split at hj
      · rw [List.getElem?_drop] at hj
        rw [Nat.add_assoc]
        exact own_cell hh hb hi hj
      · cases hj)
    simp [execOp, ho, hy, Instr.loadAt, Instr.sureAddr, this]
end
end Go.Proofs.YtahobmjchppciaaDoor.Sx
