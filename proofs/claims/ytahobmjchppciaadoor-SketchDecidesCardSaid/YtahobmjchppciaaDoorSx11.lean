/- A certificate's reading: all operations. -/
import Derived.Test.YtahobmjchppciaaDoorSx21
import Derived.Test.YtahobmjchppciaaDoorSx24
import Derived.Laws.Cover3
namespace Go.Proofs.YtahobmjchppciaaDoor.Sx
open Go Go.RowKit
set_option linter.unusedVariables false
set_option linter.unusedSimpArgs false

section
variable {P : Program} {o : Oper} {T : TL} {H : HL}

def notSelect : Op → Bool
  | .select _ _ => false
  | _ => true
def evPlain (P : Program) (o : Oper) (T : TL) : Option Ev :=
  if notSelect o.op = true ∧ o.op.operands.toList.all (fun x => (plain? (evA T x)).isSome) = true then (pureOf P (execOp (fun x => (plain? (evA T x)).getD undef) o)).map fun v => ⟨ofV v, [], [], []⟩ else none
theorem evPlain_ok {e : Ev} (he : evPlain P o T = some e) : Fits P o T H e := by
  unfold evPlain at he
  split at he
  · rename_i hq
    obtain ⟨v, h1, rfl⟩ := Option.map_eq_some_iff.1 he
    refine ok_plain (fun cs b h => ?_) (getT T) v (fun x hx => ?_) h1
    · rw [h] at hq; exact absurd hq.1 (by simp [notSelect])
    · exact List.all_eq_true.1 hq.2 x (by simpa using hx)
  · cases he

def oneInt : Option AV → Option (Option (IntKind × Int))
  | none => some none
  | some (.v (.int k i)) => some (some (k, i))
  | _ => none
def evSlice (P : Program) (t : TypeId) (av : AV) (lo hi : Option AV) : Option Ev :=
  match P.underlying t, av with
  | some (.slice e), .ro sz k rows => match (P.info? e).map (·.size), oneInt lo, oneInt hi with
    | some sz', some l, some h =>
      let l' := (l.map (·.2)).getD 0
      let h' := (h.map (·.2)).getD (k : Int)
      if sz' = sz then some ⟨.ro sz (h'.toNat - l'.toNat) ((rows.take h'.toNat).drop l'.toNat), [], [], [0 ≤ l', l' ≤ h', h' ≤ (k : Int)]⟩ else none
    | _, _, _ => none
  | _, _ => none
theorem evSlice_ok {t : TypeId} {x : Operand} {lo hi : Option Operand} {e : Ev} (ho : o.op = .slice t x lo hi none) (he : evSlice P t (evA T x) (lo.map (evA T)) (hi.map (evA T)) = some e) (hc : All e.cond) : Fits P o T H e := by
  unfold Fits
  rw [ho]
  have e1 : (Op.slice t x lo hi none).operands.toList.map (evA T) = evA T x :: (lo.toList.map (evA T) ++ hi.toList.map (evA T)) := by
    cases lo <;> cases hi <;> simp [Op.operands]
  rw [e1]
  unfold evSlice at he
  generalize evA T x = av at he
  split at he
  · rename_i elem sz k rows ht
    split at he
    · rename_i sz' l h hs hl hh
      simp only at he
      split at he
      · rename_i hsz
        subst hsz
        cases he
        obtain ⟨c1, c2, c3⟩ := hc.three
        refine ok_slice ho ht hs ?_ ?_ c1 c2 c3
        · cases lo with
          | none => simp only [Option.map_none, oneInt, Option.some.injEq] at hl; subst hl; exact .inl ⟨rfl, rfl, rfl⟩
          | some y =>
            simp only [Option.map_some] at hl
            unfold oneInt at hl
            split at hl
            · rename_i hq; cases hq
            · rename_i kd i hq
              simp only [Option.some.injEq] at hq hl
              subst hl
              exact .inr ⟨y, kd, rfl, by simp [hq]⟩
            · cases hl
        · cases hi with
          | none => simp only [Option.map_none, oneInt, Option.some.injEq] at hh; subst hh; exact .inl ⟨rfl, rfl, rfl⟩
          | some y =>
            simp only [Option.map_some] at hh
            unfold oneInt at hh
            split at hh
            · rename_i hq; cases hq
            · rename_i kd i hq
              simp only [Option.some.injEq] at hq hh
              subst hh
              exact .inr ⟨y, kd, rfl, by simp [hq]⟩
            · cases hh
      · cases he
    · cases he
  · cases he

def evCall (P : Program) (fav : AV) (args : List AV) (H : HL) (h : Option Hint) : Option Ev :=
  match targetOf fav, h with
  | some (f, a1, a2), some (.call rd post res) => if callable P f = true then
      some ⟨res, rd, post, [Ok P f (a1 ++ args ++ a2) (look (preOf H rd)) res (updL (look (preOf H rd)) post)]⟩ else none
  | _, _ => none
theorem evCall_ok {g : Operand} {xs : Array Operand} {ts : Array TypeId} {h : Option Hint} {e : Ev} (ho : o.op = .call { callee := .value g, args := xs, argTypes := ts }) (he : evCall P (evA T g) (xs.toList.map (evA T)) H h = some e) (hc : All e.cond) : Fits P o T H e := by
  unfold Fits
  rw [ho]
  have e1 : (Op.call { callee := .value g, args := xs, argTypes := ts }).operands.toList.map (evA T) = evA T g :: xs.toList.map (evA T) := by simp [Op.operands, Call.operands]
  rw [e1]
  unfold evCall at he
  split at he
  · rename_i f a1 a2 rd post res hf
    split at he
    · rename_i hcall
      cases he
      exact ok_call ho hf hcall hc.one
    · cases he
  · cases he

def allPlain : List AV → Option (List Value)
  | [] => some []
  | a :: as => (plain? a).bind fun v => (allPlain as).map (v :: ·)
theorem allPlain_ok : ∀ {as : List AV} {vs : List Value}, allPlain as = some vs → as.map plain? = vs.map some
  | [], _, h => by cases h; rfl
  | a :: as, vs, h => by
    obtain ⟨v, h1, h2⟩ := Option.bind_eq_some_iff.1 h
    obtain ⟨l, h3, rfl⟩ := Option.map_eq_some_iff.1 h2
    simp only [List.map_cons, h1, List.cons.injEq, true_and]
    exact allPlain_ok h3
def evSpell (P : Program) (t : TypeId) (len : Nat) (parts : List Nat) (avs : List AV) (h : Option Hint) : Option Ev :=
  match elemOk P t, allPlain avs with
  | some (e, sz, _, z), some vs => match litCells sz len z (parts.zip vs) with
    | some cells => if len * sz ≤ 2 ^ 24 then match h with
        | some (.app n k rows) => some ⟨.own n, [], [(n, some (.row sz e k rows))], [chunk sz len cells.toList = rows ∧ len = k]⟩
        | some (.lit n k rows) => some ⟨.own n, [], [(n, some (.lit sz e k rows))], [chunk sz len cells.toList = rows ∧ len = k]⟩
        | _ => none
      else none
    | none => none
  | _, _ => none
theorem evSpell_ok {t : TypeId} {len : Nat} {parts : Array (Nat × Operand)} {h : Option Hint} {e : Ev} (ho : o.op = .buildSlice t len parts) (he : evSpell P t len (parts.toList.map (·.1)) (parts.toList.map fun p => evA T p.2) h = some e) (hc : All e.cond) : Fits P o T H e := by
  have e1 : (Op.buildSlice t len parts).operands.toList.map (evA T) = parts.toList.map fun p => evA T p.2 := by simp [Op.operands, Function.comp_def]
  unfold Fits
  rw [ho, e1]
  unfold evSpell at he
  split at he
  · rename_i e' sz bytes z vs hel hpl
    obtain ⟨h1, h2⟩ := elemOk_ok hel
    split at he
    · rename_i cells hcl
      split at he
      · rename_i hl
        split at he
        · cases he
          simp only [updL_one]
          rw [← hc.one.1, ← hc.one.2]
          exact ok_buildSlice ho h1 h2 (fun m => rfl) hl (allPlain_ok hpl) hcl (.inl rfl)
        · cases he
          simp only [updL_one]
          rw [← hc.one.1, ← hc.one.2]
          exact ok_buildSlice ho h1 h2 (fun m => rfl) hl (allPlain_ok hpl) hcl (.inr rfl)
        · cases he
      · cases he
    · cases he
  · cases he

def evConv (P : Program) (o : Oper) (src dst : TypeId) (av : AV) (T : TL) (H : HL) (h : Option Hint) : Option Ev :=
  match P.underlying src with
  | some (.slice e) => match P.underlying e with
    | some (.int .u8) => match h, av with
      | some (.nums xs), _ => match P.underlying dst, srcRows (look (preOf H (srcRd av))) 1 av with
        | some .string, some (m, rows) => some ⟨.v (.string (strOfNums xs)), srcRd av, [], [rows.flatten = xs.map (Value.int .u8)]⟩
        | _, _ => none
      | _, .own n => match look H n with
        | some (.lit sz te k rows) => if src = dst then some ⟨.own n, [n], [(n, some (.lit sz te k rows))], []⟩ else none
        | _ => none
      | _, _ => none
    | _ => evPlain P o T
  | _ => evPlain P o T
theorem evConv_ok {src dst : TypeId} {x : Operand} {h : Option Hint} {e : Ev} (ho : o.op = .convert src dst x) (he : evConv P o src dst (evA T x) T H h = some e) (hc : All e.cond) : Fits P o T H e := by
  unfold evConv at he
  split at he
  · rename_i el hs
    split at he
    · rename_i hel
      split at he
      · split at he
        · rename_i hd hsr
          cases he
          unfold Fits
          rw [ho]
          show OpOk P o [evA T x] _ _ _
          exact ok_str ho hs hel hd hsr hc.one
        · cases he
      · rename_i n hav
        split at he
        · rename_i hl
          split at he
          · rename_i hsd
            subst hsd
            cases he
            unfold Fits
            rw [ho]
            show OpOk P o [evA T x] _ _ _
            rw [hav]
            simp only [updL_one]
            exact ok_mark ho hs hel (pre_self hl)
          · cases he
        · cases he
      · cases he
    · exact evPlain_ok he
  · exact evPlain_ok he

def evAppends (P : Program) (t : TypeId) (sA sB : AV) (H : HL) (h : Option Hint) : Option Ev :=
  match sA with
  | .own n => match look H n with
    | some (.lit sz' te k rows) => match elemOk P t, h, srcRows (look (preOf H (n :: srcRd sB))) sz' sB with
      | some (e, sz, bytes, _), some (.app n' k' rows'), some (m, rows2) => if sz' = sz ∧ (look H n').isNone = true ∧ (preOf H (n :: srcRd sB)).all (fun x => !x.2.uses n') = true ∧ n ≠ n' then
          some ⟨.own n', n :: srcRd sB, [(n', some (.row sz e k' rows')), (n, none)], [0 < m, (k + m) * bytes ≤ 140737488355328, k + m ≤ maxLen, rows ++ rows2 = rows' ∧ k + m = k']⟩ else none
      | _, _, _ => none
    | _ => evAppend P t sA sB H h
  | _ => evAppend P t sA sB H h
theorem evAppends_ok {t : TypeId} {x y : Operand} {h : Option Hint} {e : Ev} (ho : o.op = .call { callee := .builtin .append, args := #[x, y], argTypes := #[t, t] }) (he : evAppends P t (evA T x) (evA T y) H h = some e) (hc : All e.cond) : Fits P o T H e := by
  unfold evAppends at he
  split at he
  · rename_i n hA
    split at he
    · rename_i sz' te k rows hl
      split at he
      · rename_i e' sz bytes z n' k' rows' m rows2 hel hsrc
        obtain ⟨h1, h2⟩ := elemOk_ok hel
        split at he
        · rename_i hq
          obtain ⟨rfl, hn', hu, hne⟩ := hq
          cases he
          obtain ⟨c1, c2, c3, c4⟩ := hc.four
          unfold Fits
          rw [ho]
          show OpOk P o [evA T x, evA T y] _ _ _
          rw [hA]
          simp only [updL_two]
          rw [← c4.1, ← c4.2]
          exact ok_appendLit ho h1 (te := te) (by rw [look_preOf]; simp [hl]) hsrc c1 (pre_none hn') (all_uses hu) c3 c2
        · cases he
      · cases he
    · exact evAppend_ok ho he hc
  · exact evAppend_ok ho he hc

def evCalls (P : Program) (o : Oper) (c : Call) (T : TL) (H : HL) (h : Option Hint) : Option Ev :=
  match c.callee, c.args.toList, c.argTypes.toList with
  | .value g, xs, _ => evCall P (evA T g) (xs.map (evA T)) H h
  | .builtin .len, [x], [t] => match evLen P t (evA T x) H with
    | some e => some e
    | none => evPlain P o T
  | .builtin .append, [x, y], [t, t'] => if t = t' then evAppends P t (evA T x) (evA T y) H h else none
  | _, _, _ => evPlain P o T
theorem evCalls_ok {c : Call} {h : Option Hint} {e : Ev} (ho : o.op = .call c) (he : evCalls P o c T H h = some e) (hc : All e.cond) : Fits P o T H e := by
  obtain ⟨callee, args, argTypes⟩ := c
  unfold evCalls at he
  simp only at he
  split at he
  · exact evCall_ok ho he hc
  · rename_i x t hx ht
    split at he
    · rename_i e' hl
      cases he
      refine evLen_ok (x := x) (t := t) ?_ hl
      rw [ho]
      congr 2
      · exact Array.toList_inj.1 hx
      · exact Array.toList_inj.1 ht
    · exact evPlain_ok he
  · rename_i x y t t' hx ht
    split at he
    · rename_i htt
      subst htt
      refine evAppends_ok (x := x) (y := y) (t := t) ?_ he hc
      rw [ho]
      congr 2
      · exact Array.toList_inj.1 hx
      · exact Array.toList_inj.1 ht
    · cases he
  · exact evPlain_ok he

/-- Division and shifts whose second number is no literal. -/
def evDiv (op : BinOp) (x y : AV) : Option Ev :=
  match op, x, y with
  | .quo, .v (.int k a), .v (.int k' b) => if k = k' then some ⟨.v (.int k (k.wrap (a.tdiv b))), [], [], [b ≠ 0]⟩ else none
  | .rem, .v (.int k a), .v (.int k' b) => if k = k' then some ⟨.v (.int k (a.tmod b)), [], [], [b ≠ 0]⟩ else none
  | .shl, .v (.int k a), .v (.int _ b) => some ⟨.v (.int k (k.wrap (a * 2 ^ min b.toNat k.bits))), [], [], [0 ≤ b]⟩
  | .shr, .v (.int k a), .v (.int _ b) => some ⟨.v (.int k (a.fdiv (2 ^ min b.toNat k.bits))), [], [], [0 ≤ b]⟩
  | _, _, _ => none
theorem evDiv_ok {op : BinOp} {xt yt : TypeId} {x y : Operand} {e : Ev} (ho : o.op = .binOp op xt x y yt) (he : evDiv op (evA T x) (evA T y) = some e) (hc : All e.cond) : Fits P o T H e := by
  unfold Fits
  rw [ho]
  show OpOk P o [evA T x, evA T y] _ _ _
  unfold evDiv at he
  generalize evA T x = ax at he
  generalize evA T y = ay at he
  split at he
  · rename_i k a k' b
    split at he
    · rename_i hk
      subst hk
      cases he
      have h1 := hc.one
      refine ok_same fun ρ D w ac hr _ => ⟨_, ?_, .v _⟩
      rw [ho] at hr
      obtain ⟨r1, r2⟩ := reps_two (x := x) (y := y) hr
      generalize hx : ac.eval x = u at r1
      generalize hy : ac.eval y = v at r2
      cases r1; cases r2
      simp [execOp, ho, hx, hy, eqGuard, binOp, Op.intDiv, h1]
    · cases he
  · rename_i k a k' b
    split at he
    · rename_i hk
      subst hk
      cases he
      have h1 := hc.one
      refine ok_same fun ρ D w ac hr _ => ⟨_, ?_, .v _⟩
      rw [ho] at hr
      obtain ⟨r1, r2⟩ := reps_two (x := x) (y := y) hr
      generalize hx : ac.eval x = u at r1
      generalize hy : ac.eval y = v at r2
      cases r1; cases r2
      simp [execOp, ho, hx, hy, eqGuard, binOp, Op.intDiv, h1]
    · cases he
  · rename_i k a k' b
    cases he
    have h1 : ¬ b < 0 := by have := hc.one; omega
    refine ok_same fun ρ D w ac hr _ => ⟨_, ?_, .v _⟩
    rw [ho] at hr
    obtain ⟨r1, r2⟩ := reps_two (x := x) (y := y) hr
    generalize hx : ac.eval x = u at r1
    generalize hy : ac.eval y = v at r2
    cases r1; cases r2
    simp [execOp, ho, hx, hy, eqGuard, binOp, Op.shift, h1]
  · rename_i k a k' b
    cases he
    have h1 : ¬ b < 0 := by have := hc.one; omega
    refine ok_same fun ρ D w ac hr _ => ⟨_, ?_, .v _⟩
    rw [ho] at hr
    obtain ⟨r1, r2⟩ := reps_two (x := x) (y := y) hr
    generalize hx : ac.eval x = u at r1
    generalize hy : ac.eval y = v at r2
    cases r1; cases r2
    simp [execOp, ho, hx, hy, eqGuard, binOp, Op.shift, h1]
  · cases he

def evEq (P : Program) (op : BinOp) (t : TypeId) (x y : AV) : Option Ev :=
  match x, y, P.underlying t with
  | .agg as, .agg bs, some (.struct _) => match plain?.plainL as, plain?.plainL bs with
    | some xs, some ys => if (op = .eql ∨ op = .neq) ∧ P.stoodInHeld t = false ∧ P.eqGuardType P.depth t = false then
        (eqFlat P xs.toArray ys.toArray (P.fieldsOf t).toList).map fun b => ⟨.v (.bool (if op = .neq then !b else b)), [], [], []⟩ else none
    | _, _ => none
  | .agg as, .agg bs, some (.array n e) => match plain?.plainL as, plain?.plainL bs, P.underlying e with
    | some xs, some ys, some td => if (op = .eql ∨ op = .neq) ∧ xs.length = n ∧ P.cellsOf e = 1 ∧ P.eqGuardType P.depth t = false then
        (eqArr td xs ys).map fun b => ⟨.v (.bool (if op = .neq then !b else b)), [], [], []⟩ else none
    | _, _, _ => none
  | _, _, _ => none
theorem evEq_ok {op : BinOp} {t t' : TypeId} {x y : Operand} {e : Ev} (ho : o.op = .binOp op t x y t') (he : evEq P op t (evA T x) (evA T y) = some e) : Fits P o T H e := by
  unfold Fits
  rw [ho]
  show OpOk P o [evA T x, evA T y] _ _ _
  unfold evEq at he
  split at he
  · rename_i as bs fs ha hb hu
    split at he
    · rename_i xs ys h1 h2
      split at he
      · rename_i hq
        obtain ⟨b, h3, rfl⟩ := Option.map_eq_some_iff.1 he
        rw [ha, hb]
        have : P.fieldsOf t = fs := by simp [Program.fieldsOf, hu]
        exact ok_eqFlat ho hq.1 (by rw [this]; exact hu) hq.2.1 hq.2.2 h1 h2 h3
      · cases he
    · cases he
  · rename_i as bs n e' ha hb hu
    split at he
    · rename_i xs ys td h1 h2 h4
      split at he
      · rename_i hq
        obtain ⟨b, h3, rfl⟩ := Option.map_eq_some_iff.1 he
        rw [ha, hb]
        exact ok_eqArr ho hq.1 (by rw [hq.2.1]; exact hu) h4 hq.2.2.1 hq.2.2.2 h1 h2 h3
      · cases he
    · cases he
  · cases he

def evBase (P : Program) (o : Oper) (T : TL) (H : HL) (h : Option Hint) : Option Ev :=
  match o.op with
  | .load t x => evLoads P t (evA T x) H h
  | .store t x y => evStore P t (evA T x) (evA T y) H h
  | .indexAddr t x y => evIndex P t (evA T x) (evA T y) H h
  | .move x => some ⟨evA T x, [], [], []⟩
  | .assign x => some ⟨evA T x, [], [], []⟩
  | .nilCheck x => if (evA T x).some? then some ⟨evA T x, [], [], []⟩ else none
  | .fieldAddr s x f => (fieldOff P s f).bind fun k => ((evA T x).shift k).map fun a => ⟨a, [], [], []⟩
  | .box t x => match h with
    | some (.nm n) => if (evA T x).cells.all AV.one = true ∧ AV.uses.usesL n (evA T x).cells = false then some (evNew n (evA T x).cells t) else none
    | _ => none
  | .alloc t => match h, zeroOf P t with
    | some (.nm n), some z => if z.cells.all (·.oneCell') = true then some (evNew n (z.cells.toList.map .v) t) else none
    | _, _ => none
  | .makeSlice t x y => evMake P t (evA T x) (evA T y) h
  | .slice t x lo hi none => match evA T x with
    | .v _ => evPlain P o T
    | _ => evSlice P t (evA T x) (lo.map (evA T)) (hi.map (evA T))
  | .extract x i => match evA T x with
    | .tup vs => (vs[i]?).map fun a => ⟨a, [], [], []⟩
    | _ => none
  | .pick c x y => match evA T c with
    | .v (.bool t) => some ⟨if t then evA T x else evA T y, [], [], []⟩
    | _ => none
  | .makeInterface t x => if concrete P t then some ⟨.ifc t (evA T x), [], [], []⟩ else none
  | .call c => evCalls P o c T H h
  | .buildSlice t len parts => evSpell P t len (parts.toList.map (·.1)) (parts.toList.map fun p => evA T p.2) h
  | .convert src dst x => evConv P o src dst (evA T x) T H h
  | .makeFunc f xs ys => some ⟨.fn f (xs.toList.map (evA T)) (ys.toList.map (evA T)), [], [], []⟩
  | .build t parts => (builtAV P t ((parts.toList.map (·.1)).zip (parts.toList.map fun p => evA T p.2))).map fun cs => ⟨.agg cs, [], [], []⟩
  | .index t x y => match evA T x, evA T y, P.underlying t with
    | .v (.string s), .v (.int k i), some .string => match h with
      | some (.nat _) => some ⟨.v (.int .u8 (sByte s i)), [], [], [0 ≤ i ∧ i < s.size]⟩
      | _ => evPlain P o T
    | _, _, _ => evPlain P o T
  | .binOp op xt x y _ => match h with
    | some (.nat _) => evDiv op (evA T x) (evA T y)
    | _ => match evEq P op xt (evA T x) (evA T y) with
      | some e => some e
      | none => evPlain P o T
  | _ => evPlain P o T
theorem evBase_ok {h : Option Hint} {e : Ev} (he : evBase P o T H h = some e) (hc : All e.cond) : Fits P o T H e := by
  unfold evBase at he
  split at he
  · rename_i ho; exact evLoads_ok ho he hc
  · rename_i ho; exact evStore_ok ho he hc
  · rename_i ho; exact evIndex_ok ho he hc
  · rename_i x ho; cases he; unfold Fits; rw [ho]; exact ok_move (.inl ho)
  · rename_i x ho; cases he; unfold Fits; rw [ho]; exact ok_move (.inr ho)
  · rename_i x ho
    split at he
    · rename_i hs; cases he; unfold Fits; rw [ho]; exact ok_nilCheck ho hs
    · cases he
  · rename_i s x f ho
    obtain ⟨k, h1, h2⟩ := Option.bind_eq_some_iff.1 he
    obtain ⟨a, h3, rfl⟩ := Option.map_eq_some_iff.1 h2
    unfold Fits; rw [ho]; exact ok_fieldAddr ho h1 h3
  · rename_i t x ho
    split at he
    · split at he
      · rename_i hq; cases he; exact evBox_ok ho hq.1 hq.2
      · cases he
    · cases he
  · rename_i t ho
    split at he
    · rename_i n z hz
      split at he
      · rename_i hq; cases he; exact evAlloc_ok ho hz hq
      · cases he
    · cases he
  · rename_i ho; exact evMake_ok ho he hc
  · rename_i ho
    split at he
    · exact evPlain_ok he
    · exact evSlice_ok ho he hc
  · rename_i x i ho
    split at he
    · rename_i vs hv
      obtain ⟨a, h1, rfl⟩ := Option.map_eq_some_iff.1 he
      unfold Fits; rw [ho]
      show OpOk P o [evA T x] _ _ _
      rw [hv]
      exact ok_extract ho h1
    · cases he
  · rename_i c x y ho
    split at he
    · rename_i t hv
      cases he
      unfold Fits; rw [ho]
      show OpOk P o [evA T c, evA T x, evA T y] _ _ _
      rw [hv]
      exact ok_pick ho
    · cases he
  · rename_i t x ho
    split at he
    · rename_i hq; cases he; unfold Fits; rw [ho]; exact ok_iface ho hq
    · cases he
  · rename_i ho; exact evCalls_ok ho he hc
  · rename_i ho; exact evSpell_ok ho he hc
  · rename_i ho; exact evConv_ok ho he hc
  · rename_i f xs ys ho
    cases he
    unfold Fits
    rw [ho]
    have e1 : (Op.makeFunc f xs ys).operands.toList.map (evA T) = xs.toList.map (evA T) ++ ys.toList.map (evA T) := by simp [Op.operands]
    rw [e1]
    exact ok_makeFunc ho (by simp)
  · rename_i t parts ho
    obtain ⟨cs, h1, rfl⟩ := Option.map_eq_some_iff.1 he
    unfold Fits
    rw [ho]
    have e1 : (Op.build t parts).operands.toList.map (evA T) = parts.toList.map fun p => evA T p.2 := by simp [Op.operands, Function.comp_def]
    rw [e1]
    exact ok_build ho h1 (by simp)
  · rename_i t x y ho
    split at he
    · rename_i s k i hx hy ht
      split at he
      · cases he
        unfold Fits
        rw [ho]
        show OpOk P o [evA T x, evA T y] _ _ _
        rw [hx, hy]
        exact ok_strIndex ho ht hc.one
      · exact evPlain_ok he
    · exact evPlain_ok he
  · rename_i ho
    split at he
    · exact evDiv_ok ho he hc
    · split at he
      · rename_i e' h1
        cases he
        exact evEq_ok ho h1
      · exact evPlain_ok he
  · exact evPlain_ok he

/-- What is answered, spelled otherwise. -/
def fixOut (e : Ev) : Hint → Option Ev
  | .b x => match e.out with
    | .v (.bool y) => some ⟨.v (.bool x), e.rd, e.upd, e.cond ++ [y = x]⟩
    | _ => none
  | .as_ x => some ⟨x, e.rd, e.upd, e.cond ++ [e.out = x]⟩
  | _ => none
theorem fixOut_ok {e e' : Ev} {h : Hint} (he : fixOut e h = some e') (hc : All e'.cond) (hf : All e.cond → Fits P o T H e) : Fits P o T H e' := by
  unfold fixOut at he
  split at he
  · split at he
    · rename_i x y hv
      cases he
      obtain ⟨h1, h2⟩ := hc.append
      have := hf h1
      unfold Fits at this ⊢
      rw [hv, h2.one] at this
      exact this
    · cases he
  · rename_i x
    cases he
    obtain ⟨h1, h2⟩ := hc.append
    have := hf h1
    unfold Fits at this ⊢
    rw [h2.one] at this
    exact this
  · cases he

/-- A slice that isn't nil, compared with nil. -/
def evNil (P : Program) (o : Oper) (T : TL) : Option Ev :=
  match o.op with
  | .binOp op t x y _ => match evA T x, evA T y, P.underlying t with
    | .ron _ _ _, .v (.slice none 0 0), some (.slice _) => if op = .eql ∨ op = .neq then some ⟨.v (.bool (if op = .neq then true else false)), [], [], []⟩ else none
    | _, _, _ => none
  | _ => none
theorem evNil_ok {e : Ev} (he : evNil P o T = some e) : Fits P o T H e := by
  unfold evNil at he
  split at he
  · rename_i op t x y t' ho
    split at he
    · rename_i sz k rows el hx hy hu
      split at he
      · rename_i hop
        cases he
        unfold Fits
        rw [ho]
        show OpOk P o [evA T x, evA T y] _ _ _
        rw [hx, hy]
        refine ok_same fun ρ D w ac hr _ => ⟨_, ?_, .v _⟩
        rw [ho] at hr
        obtain ⟨r1, r2⟩ := reps_two (x := x) (y := y) hr
        generalize h1 : ac.eval x = u at r1
        generalize h2 : ac.eval y = v at r2
        cases r1; cases r2
        rcases hop with rfl | rfl <;> simp [execOp, ho, h1, h2, eqGuard, binOp, run_equal_slice_nil w t el _ _ _ hu]
      · cases he
    · cases he
  · cases he
def strip : AV → AV
  | .ron sz k rows => .ro sz k rows
  | a => a
theorem strip_le (a : AV) : LeA a (strip a) := by
  unfold strip
  split
  · exact .ron _ _ _
  · exact .refl _
def stripT (T : TL) : TL := T.map fun x => (x.1, strip x.2)
theorem getT_stripT : ∀ (T : TL) (t : Nat), getT (stripT T) t = strip (getT T t)
  | [], t => rfl
  | x :: T, t => by
    have ih := getT_stripT T t
    unfold stripT at ih ⊢
    simp only [List.map_cons, getT]
    split
    · rfl
    · exact ih
theorem evA_strip (T : TL) (x : Operand) : LeA (evA T x) (evA (stripT T) x) := by
  cases x with
  | tmp t => show LeA (getT T t) (getT (stripT T) t); rw [getT_stripT]; exact strip_le _
  | _ => exact .refl _
theorem evA_strips (T : TL) : ∀ l : List Operand, LeL (l.map (evA T)) (l.map (evA (stripT T)))
  | [] => .nil
  | x :: l => .cons (evA_strip T x) (evA_strips T l)
theorem OpOk.args {avs avs' : List AV} {pre post : Hp} {out : AV} (h : OpOk P o avs' pre out post) (l : LeL avs avs') : OpOk P o avs pre out post := by
  intro ρ D w a hr hs
  exact h ρ D w a (l.reps _ hr) hs
/-- A named row cut or written over, an array's element at a place that is no literal. -/
def evMore (P : Program) (o : Oper) (T : TL) (H : HL) (h : Option Hint) : Option Ev :=
  match o.op, h with
  | .slice t x none (some y) none, some (.app n' k' rows') => match P.underlying t, evA T x, evA T y with
    | some (.slice e), .own n, .v (.int kd i) => match (P.info? e).map (·.size), look H n with
      | some sz', some (.row sz te k rows) => if sz' = sz ∧ (look H n').isNone = true ∧ (preOf H [n]).all (fun x => !x.2.uses n') = true ∧ n ≠ n' then
          some ⟨.own n', [n], [(n', some (.row sz te k' rows')), (n, none)], [0 ≤ i, i ≤ (k : Int), rows.take i.toNat = rows' ∧ i.toNat = k']⟩ else none
      | _, _ => none
    | _, _, _ => none
  | .index t x y, some (.one c) => match P.underlying t, evA T x, evA T y with
    | some (.array len elem), .agg cs, .v (.int kd i) => if aggOf P elem = some none then some ⟨c, [], [], [0 ≤ i ∧ i < (len : Int), cs[i.toNat]? = some c]⟩ else none
    | _, _, _ => none
  | .call { callee := .builtin .copy, args := ⟨[x, y]⟩, argTypes := ⟨[t, t']⟩ }, some (.app _ k' rows') => match P.underlying t, evA T x with
    | some (.slice e), .own n => match (P.info? e).map (·.size), look H n, srcRows (look (preOf H (n :: srcRd (evA T y)))) 1 (evA T y) with
      | some sz', some (.row sz te k rows), some (m, rows2) => if sz' = 1 ∧ sz = 1 then
          some ⟨.v (.int .i64 (min m k : Nat)), n :: srcRd (evA T y), [(n, some (.row 1 te k' rows'))], [∀ r ∈ rows2, ∀ u ∈ r, u.oneCell' = true, rows2.take k ++ rows.drop m = rows' ∧ k = k']⟩ else none
      | _, _, _ => none
    | _, _ => none
  | .indexAddr t (.global g) y, some (.el e) => match P.underlying t, evA T y with
    | some (.array len elem), .v (.int kd i) => if (P.info? elem).map (·.size) = some 1 then
        some ⟨.roe e 0, [], [], [0 ≤ i ∧ i < (len : Int), ∀ D, GG D → ∃ cells te fr, D g = some (.cells cells te fr) ∧ ∀ (j : Nat) (x : Value), e[j]? = some x → cells[i.toNat + j]? = some x]⟩ else none
    | _, _ => none
  | .call { callee := .value g, args := xs, argTypes := _ }, some (.one (.tup cs)) => match targetOf (evA T g), plain?.plainL (xs.toList.map (evA T)), plain?.plainL cs with
    | some (f, [], []), some vs, some us => some ⟨.tup cs, [], [], [∀ w, (callFunc f vs.toArray).run P w = .ok (.value (.tuple us.toArray)) w]⟩
    | _, _, _ => none
  | _, _ => none
theorem evMore_ok {h : Option Hint} {e : Ev} (he : evMore P o T H h = some e) (hc : All e.cond) : Fits P o T H e := by
  unfold evMore at he
  split at he
  · rename_i t x y n' k' rows' ho
    split at he
    · rename_i el n kd i hu hx hy
      split at he
      · rename_i sz' sz te k rows hs hl
        split at he
        · rename_i hq
          obtain ⟨rfl, hn', hus, hne⟩ := hq
          cases he
          obtain ⟨c1, c2, c3⟩ := hc.three
          unfold Fits
          rw [ho]
          show OpOk P o [evA T x, evA T y] _ _ _
          rw [hx, hy]
          simp only [updL_two]
          rw [← c3.1, ← c3.2]
          exact ok_cut ho hu hs (pre_self hl) (pre_none hn') (all_uses hus) c1 c2
        · cases he
      · cases he
    · cases he
  · rename_i t x y c ho
    split at he
    · rename_i len el cs kd i hu hx hy
      split at he
      · rename_i hg
        cases he
        obtain ⟨c1, c2⟩ := hc.two
        unfold Fits
        rw [ho]
        show OpOk P o [evA T x, evA T y] _ _ _
        rw [hx, hy]
        exact ok_elem ho hu hg c1 c2
      · cases he
    · cases he
  · rename_i x y t t' _ k' rows' ho
    split at he
    · rename_i el n hu hx
      split at he
      · rename_i sz' sz te k rows m rows2 hs hl hsrc
        split at he
        · rename_i hq
          obtain ⟨rfl, rfl⟩ := hq
          cases he
          obtain ⟨c1, c2⟩ := hc.two
          unfold Fits
          rw [ho]
          show OpOk P o [evA T x, evA T y] _ _ _
          rw [hx]
          simp only [updL_one]
          rw [← c2.1, ← c2.2]
          exact ok_copy ho hu hs (by rw [look_preOf]; simp [hl]) hsrc c1
        · cases he
      · cases he
    · cases he
  · rename_i t g y e' ho
    split at he
    · rename_i len el kd i hu hy
      split at he
      · rename_i hs
        cases he
        obtain ⟨c1, c2⟩ := hc.two
        unfold Fits
        rw [ho]
        show OpOk P o [evA T (.global g), evA T y] _ _ _
        rw [hy]
        exact ok_globEl ho hu hs c1 c2
      · cases he
    · cases he
  · rename_i g xs ts cs ho
    split at he
    · rename_i f vs us hf ha hr
      cases he
      have c1 := hc.one
      unfold Fits
      rw [ho]
      rw [show (Op.call { callee := .value g, args := xs, argTypes := ts }).operands.toList.map (evA T) = evA T g :: xs.toList.map (evA T) by simp [Op.operands, Call.operands]]
      exact ok_extern ho hf ha hr c1
    · cases he
  · cases he
def evOpen (P : Program) (o : Oper) (T : TL) (H : HL) (h : Option Hint) : Option Ev :=
  match evNil P o T with
  | some e => some e
  | none => match evMore P o T H h with
    | some e => some e
    | none => match evBase P o T H h with
      | some e => some e
      | none => evBase P o (stripT T) H h
theorem evOpen_ok {h : Option Hint} {e : Ev} (he : evOpen P o T H h = some e) (hc : All e.cond) : Fits P o T H e := by
  unfold evOpen at he
  split at he
  · rename_i e' h1; cases he; exact evNil_ok h1
  · split at he
    · rename_i e' h1; cases he; exact evMore_ok h1 hc
    · split at he
      · rename_i e' h1; cases he; exact evBase_ok h1 hc
      · have := evBase_ok he hc
        unfold Fits at this ⊢
        exact this.args (evA_strips T _)

def evOp (P : Program) (o : Oper) (T : TL) (H : HL) (h : Option Hint) : Option Ev :=
  match h with
  | some (.two a b) => (evOpen P o T H (some a)).bind fun e => fixOut e b
  | some (.b x) => (evOpen P o T H none).bind fun e => fixOut e (.b x)
  | some (.as_ x) => (evOpen P o T H none).bind fun e => fixOut e (.as_ x)
  | h => evOpen P o T H h
theorem evOp_ok {h : Option Hint} {e : Ev} (he : evOp P o T H h = some e) (hc : All e.cond) : Fits P o T H e := by
  unfold evOp at he
  split at he
  · obtain ⟨e', h1, h2⟩ := Option.bind_eq_some_iff.1 he
    exact fixOut_ok h2 hc fun h => evOpen_ok h1 h
  · obtain ⟨e', h1, h2⟩ := Option.bind_eq_some_iff.1 he
    exact fixOut_ok h2 hc fun h => evOpen_ok h1 h
  · obtain ⟨e', h1, h2⟩ := Option.bind_eq_some_iff.1 he
    exact fixOut_ok h2 hc fun h => evOpen_ok h1 h
  · exact evOpen_ok he hc
end
end Go.Proofs.YtahobmjchppciaaDoor.Sx
