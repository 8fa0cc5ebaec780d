/- A certificate's reading: an operation. -/
import Derived.Test.YtahobmjchppciaaDoorSx15
namespace Go.Proofs.YtahobmjchppciaaDoor.Sx
open Go Go.RowKit
set_option linter.unusedVariables false
set_option linter.unusedSimpArgs false

/-- What a certificate tells beside the text. b: a truth, known; as_: what is answered, spelled otherwise; nm: a new name; nat: an index; el: an element's cells; put: an element's cells, and the rows behind the store; app: a new name, and the rows behind the append; lit: a new name, and a full row's rows; nums: bytes as numbers; call: the names that a call looks at, what it leaves of them, its answer; two: both. -/
inductive Hint where
  | b (x : Bool)
  | as_ (x : AV)
  | nm (n : Nat)
  | nat (c : Nat)
  | el (e : List Value)
  | put (e : List Value) (k : Nat) (rows : List (List Value))
  | app (n k : Nat) (rows : List (List Value))
  | call (rd : List Nat) (post : List (Nat × Option Ob)) (res : AV)
  | lit (n k : Nat) (rows : List (List Value))
  | nums (xs : List Int)
  | pan (rd : List Nat) (post : HL) (pv : AV)
  | two (x y : Hint)
  | sym (c : Nat)
  | one (c : AV)
  | cls (cs : List AV)

structure Ev where
  out : AV
  rd : List Nat
  upd : List (Nat × Option Ob)
  cond : List Prop

/-- All of some. -/
inductive All : List Prop → Prop
  | nil : All []
  | cons {p : Prop} {ps : List Prop} : p → All ps → All (p :: ps)
theorem All.append : ∀ {ps qs : List Prop}, All (ps ++ qs) → All ps ∧ All qs
  | [], _, h => ⟨.nil, h⟩
  | _ :: _, _, .cons h1 h2 => ⟨.cons h1 h2.append.1, h2.append.2⟩
theorem All.one {p : Prop} (h : All [p]) : p := by cases h with | cons h _ => exact h
theorem All.two {p q : Prop} (h : All [p, q]) : p ∧ q := by cases h with | cons h h2 => exact ⟨h, h2.one⟩
theorem All.three {p q r : Prop} (h : All [p, q, r]) : p ∧ q ∧ r := by cases h with | cons h h2 => exact ⟨h, h2.two⟩
theorem All.four {p q r s : Prop} (h : All [p, q, r, s]) : p ∧ q ∧ r ∧ s := by cases h with | cons h h2 => exact ⟨h, h2.three⟩

def preOf (H : HL) : List Nat → HL
  | [] => []
  | n :: ns => match look H n with
    | some o => (n, o) :: preOf H ns
    | none => preOf H ns
theorem look_preOf {H : HL} {n : Nat} : ∀ (rd : List Nat), look (preOf H rd) n = if rd.contains n then look H n else none
  | [] => rfl
  | m :: rd => by
    have ih := look_preOf (H := H) (n := n) rd
    simp only [preOf, List.contains_cons]
    cases h : look H m with
    | none =>
      simp only
      rw [ih]
      by_cases e : n = m
      · subst e; rw [h]; simp
      · simp [e]
    | some o =>
      simp only [look]
      by_cases e : m = n
      · subst e; rw [if_pos rfl, h]; simp
      · rw [if_neg e, ih]
        have : (n == m) = false := by simpa using Ne.symm e
        rw [this, Bool.false_or]
def lookU (u : List (Nat × Option Ob)) (n : Nat) : Option (Option Ob) := match u with
  | [] => none
  | (m, x) :: u => if m = n then some x else lookU u n
def updL (H : Hp) (u : List (Nat × Option Ob)) : Hp := fun n => match lookU u n with
  | some x => x
  | none => H n
theorem updL_nil (H : Hp) : updL H [] = H := rfl
theorem updL_one (H : Hp) (n : Nat) (x : Option Ob) : updL H [(n, x)] = updH H n x := by
  funext m
  unfold updL updH
  simp only [lookU]
  by_cases e : n = m
  · rw [if_pos e, if_pos e.symm]
  · rw [if_neg e, if_neg (Ne.symm e)]
theorem updL_two (H : Hp) (n m : Nat) (x y : Option Ob) : updL H [(n, x), (m, y)] = updH (updH H m y) n x := by
  funext k
  unfold updL updH
  simp only [lookU]
  by_cases e : n = k
  · rw [if_pos e, if_pos e.symm]
  · rw [if_neg e, if_neg (Ne.symm e)]
    by_cases e' : m = k
    · rw [if_pos e', if_pos e'.symm]
    · rw [if_neg e', if_neg (Ne.symm e')]

/-- An operation's operands. -/
def evA (T : TL) : Operand → AV := evT (getT T)

section
variable {P : Program} {o : Oper} {T : TL} {H : HL}

/-- What a reading is good for. -/
def Fits (P : Program) (o : Oper) (T : TL) (H : HL) (e : Ev) : Prop :=
  OpOk P o (o.op.operands.toList.map (evA T)) (look (preOf H e.rd)) e.out (updL (look (preOf H e.rd)) e.upd)

def evLoad (P : Program) (t : TypeId) (av : AV) (H : HL) (h : Option Hint) : Option Ev :=
  match av, aggOf P t with
  | .ptr n off, some none => match look H n with
    | some (.cells cs _) => (cs[off]?).map fun c => ⟨c, [n], [], []⟩
    | _ => none
  | .ptr n off, some (some k) => match look H n with
    | some (.cells cs _) => if off + k ≤ cs.length then some ⟨.agg ((cs.drop off).take k), [n], [], []⟩ else none
    | _ => none
  | .roe row off, some none => (row[off]?).map fun c => ⟨.v c, [], [], []⟩
  | .roe row off, some (some k) => if off + k ≤ row.length then some ⟨.agg (((row.drop off).take k).map .v), [], [], []⟩ else none
  | .oe n sz i off, some none => match look H n, h with
    | some (.row sz' _ _ rows), some (.el e) => if sz' = sz then (e[off]?).map fun c => ⟨.v c, [n], [], [rows[i]? = some e]⟩ else none
    | _, _ => none
  | .oe n sz i off, some (some k) => match look H n, h with
    | some (.row sz' _ _ rows), some (.el e) => if sz' = sz ∧ off + k ≤ e.length then some ⟨.agg (((e.drop off).take k).map .v), [n], [], [rows[i]? = some e]⟩ else none
    | _, _ => none
  | _, _ => none

theorem pre_self {n : Nat} {x : Ob} (h : look H n = some x) : look (preOf H [n]) n = some x := by rw [look_preOf]; simp [h]

theorem evLoad_ok {t : TypeId} {x : Operand} {h : Option Hint} {e : Ev} (ho : o.op = .load t x) (he : evLoad P t (evA T x) H h = some e) (hc : All e.cond) : Fits P o T H e := by
  unfold Fits
  rw [ho]
  show OpOk P o [evA T x] _ _ _
  unfold evLoad at he
  generalize evA T x = av at he
  split at he
  · rename_i n off ht
    split at he
    · rename_i cs te hl
      obtain ⟨c, h1, rfl⟩ := Option.map_eq_some_iff.1 he
      exact ok_load_one ho ht (pre_self hl) h1
    · cases he
  · rename_i n off k ht
    split at he
    · rename_i cs te hl
      split at he
      · rename_i hk
        cases he
        exact ok_load_agg ho ht (pre_self hl) hk
      · cases he
    · cases he
  · rename_i row off ht
    obtain ⟨c, h1, rfl⟩ := Option.map_eq_some_iff.1 he
    exact ok_load_ro_one ho ht h1
  · rename_i row off k ht
    split at he
    · rename_i hk
      cases he
      exact ok_load_ro_agg ho ht hk
    · cases he
  · rename_i n sz i off ht
    split at he
    · rename_i sz' te k rows e' hl
      split at he
      · rename_i hsz
        subst hsz
        obtain ⟨c, h1, rfl⟩ := Option.map_eq_some_iff.1 he
        exact ok_load_oe_one ho ht (pre_self hl) hc.one h1
      · cases he
    · cases he
  · rename_i n sz i off k ht
    split at he
    · rename_i sz' te kk rows e' hl
      split at he
      · rename_i hk
        obtain ⟨hsz, hk⟩ := hk
        subst hsz
        cases he
        exact ok_load_oe_agg ho ht (pre_self hl) hc.one hk
      · cases he
    · cases he
  · cases he

/-- A load at a place that is no literal. -/
def evLoads (P : Program) (t : TypeId) (av : AV) (H : HL) (h : Option Hint) : Option Ev :=
  match h, av, aggOf P t with
  | some (.one c), .ptr n off, some none => match look H n with
    | some (.cells cs _) => some ⟨c, [n], [], [cs[off]? = some c]⟩
    | _ => none
  | _, _, _ => evLoad P t av H h
theorem evLoads_ok {t : TypeId} {x : Operand} {h : Option Hint} {e : Ev} (ho : o.op = .load t x) (he : evLoads P t (evA T x) H h = some e) (hc : All e.cond) : Fits P o T H e := by
  unfold evLoads at he
  split at he
  · rename_i c n off hav ht
    split at he
    · rename_i cs te hl
      cases he
      unfold Fits
      rw [ho]
      show OpOk P o [evA T x] _ _ _
      rw [hav]
      exact ok_load_one ho ht (pre_self hl) hc.one
    · cases he
  · exact evLoad_ok ho he hc
def evStore (P : Program) (t : TypeId) (av c : AV) (H : HL) (h : Option Hint) : Option Ev :=
  match av, aggOf P t with
  | .ptr n off, some k => match look H n, h with
    | some (.cells cs te), some (.cls cs') => if c.cells.length = k.getD 1 ∧ c.cells.all AV.one = true then some ⟨.v undef, [n], [(n, some (.cells cs' te))], [off + c.cells.length ≤ cs.length, cs.take off ++ c.cells ++ cs.drop (off + c.cells.length) = cs']⟩ else none
    | some (.cells cs te), _ => if c.cells.length = k.getD 1 ∧ c.cells.all AV.one = true ∧ off + c.cells.length ≤ cs.length then some ⟨.v undef, [n], [(n, some (.cells (cs.take off ++ c.cells ++ cs.drop (off + c.cells.length)) te))], []⟩ else none
    | _, _ => none
  | .oe n sz i off, some k => match look H n, h, plain?.plainL c.cells with
    | some (.row sz' te kk rows), some (.put e k' rows'), some cv =>
      if sz' = sz ∧ c.cells.length = k.getD 1 ∧ c.cells.all AV.one = true ∧ off + cv.length ≤ e.length then
        some ⟨.v undef, [n], [(n, some (.row sz te k' rows'))], [rows[i]? = some e, rows.set i (e.take off ++ cv ++ e.drop (off + cv.length)) = rows' ∧ kk = k']⟩ else none
    | _, _, _ => none
  | _, _ => none
theorem evStore_ok {t : TypeId} {x y : Operand} {h : Option Hint} {e : Ev} (ho : o.op = .store t x y) (he : evStore P t (evA T x) (evA T y) H h = some e) (hc : All e.cond) : Fits P o T H e := by
  unfold Fits
  rw [ho]
  show OpOk P o [evA T x, evA T y] _ _ _
  unfold evStore at he
  generalize evA T x = av at he
  generalize evA T y = c at he
  split at he
  · rename_i n off k ht
    split at he
    · rename_i cs te cs' hl
      split at he
      · rename_i hk
        cases he
        obtain ⟨h1, h2⟩ := hc.two
        simp only [updL_one]
        rw [← h2]
        exact ok_store ho ht (pre_self hl) hk.1 hk.2 h1
      · cases he
    · rename_i cs te hh hl _
      split at he
      · rename_i hk
        cases he
        simp only [updL_one]
        exact ok_store ho ht (pre_self hl) hk.1 hk.2.1 hk.2.2
      · cases he
    · cases he
  · rename_i n sz i off k ht
    split at he
    · rename_i sz' te kk rows e' k' rows' cv hl hcv
      split at he
      · rename_i hk
        obtain ⟨hsz, hk1, hk2, hk3⟩ := hk
        subst hsz
        cases he
        obtain ⟨h1, h2⟩ := hc.two
        simp only [updL_one]
        rw [← h2.1, ← h2.2]
        exact ok_store_oe ho ht (pre_self hl) h1 hcv hk1 hk2 hk3
      · cases he
    · cases he
  · cases he

def evIndex (P : Program) (t : TypeId) (av ix : AV) (H : HL) (h : Option Hint) : Option Ev :=
  match P.underlying t, ix with
  | some (.array len elem), .v (.int _ i) => match (P.info? elem).map (·.size), h with
    | some sz, some (.nat c) => if c < len then (av.shift (c * sz)).map fun a => ⟨a, [], [], [i = (c : Int)]⟩ else none
    | some sz, some (.sym c) => (av.shift (c * sz)).map fun a => ⟨a, [], [], [i = (c : Int), c < len]⟩
    | some sz, none => match i with
      | .ofNat c => if c < len then (av.shift (c * sz)).map fun a => ⟨a, [], [], []⟩ else none
      | _ => none
    | _, _ => none
  | some (.slice elem), .v (.int _ i) => match av, (P.info? elem).map (·.size), h with
    | .ro sz k rows, some sz', some (.el e) => if sz' = sz then some ⟨.roe e 0, [], [], [0 ≤ i, rows[i.toNat]? = some e]⟩ else none
    | .own n, some sz', _ => match look H n with
      | some (.row sz _ k rows) => if sz' = sz then some ⟨.oe n sz i.toNat 0, [n], [], [0 ≤ i, i < (k : Int)]⟩ else none
      | _ => none
    | _, _, _ => none
  | _, _ => none
theorem evIndex_ok {t : TypeId} {x y : Operand} {h : Option Hint} {e : Ev} (ho : o.op = .indexAddr t x y) (he : evIndex P t (evA T x) (evA T y) H h = some e) (hc : All e.cond) : Fits P o T H e := by
  unfold Fits
  rw [ho]
  show OpOk P o [evA T x, evA T y] _ _ _
  unfold evIndex at he
  generalize evA T x = av at he
  generalize evA T y = ix at he
  split at he
  · rename_i len elem kd i ht
    split at he
    · rename_i sz c hs
      split at he
      · rename_i hl
        obtain ⟨a, h1, rfl⟩ := Option.map_eq_some_iff.1 he
        exact ok_indexArr ho ht hs hc.one hl h1
      · cases he
    · rename_i sz c hs
      obtain ⟨a, h1, rfl⟩ := Option.map_eq_some_iff.1 he
      obtain ⟨c1, c2⟩ := hc.two
      exact ok_indexArr ho ht hs c1 c2 h1
    · rename_i sz hs
      split at he
      · rename_i c
        split at he
        · rename_i hl
          obtain ⟨a, h1, rfl⟩ := Option.map_eq_some_iff.1 he
          exact ok_indexArr ho ht hs rfl hl h1
        · cases he
      · cases he
    · cases he
  · rename_i elem kd i ht
    split at he
    · rename_i sz k rows sz' e' hs
      split at he
      · rename_i hsz
        subst hsz
        cases he
        obtain ⟨h1, h2⟩ := hc.two
        exact ok_indexRo ho ht hs h1 h2
      · cases he
    · rename_i n sz' _ hs
      split at he
      · rename_i sz te k rows hl
        split at he
        · rename_i hsz
          subst hsz
          cases he
          obtain ⟨h1, h2⟩ := hc.two
          exact ok_indexOwn ho ht hs (pre_self hl) h1 h2
        · cases he
      · cases he
    · cases he
  · cases he

def evNew (n : Nat) (cs : List AV) (t : TypeId) : Ev := ⟨.ptr n 0, [], [(n, some (.cells cs t))], []⟩
theorem evBox_ok {t : TypeId} {x : Operand} {n : Nat} (ho : o.op = .box t x) (h1 : (evA T x).cells.all AV.one = true) (h2 : AV.uses.usesL n (evA T x).cells = false) : Fits P o T H (evNew n (evA T x).cells t) := by
  unfold Fits
  rw [ho]
  show OpOk P o [evA T x] _ _ _
  simp only [evNew, updL_one]
  exact ok_box ho (fun m => rfl) h1 h2
theorem evAlloc_ok {t : TypeId} {n : Nat} {z : Value} (ho : o.op = .alloc t) (hz : zeroOf P t = some z) (h1 : z.cells.all (·.oneCell') = true) : Fits P o T H (evNew n (z.cells.toList.map .v) t) := by
  unfold Fits
  rw [ho]
  show OpOk P o [] _ _ _
  simp only [evNew, updL_one]
  exact ok_alloc ho hz (fun m => rfl) h1

def elemOk (P : Program) (t : TypeId) : Option (TypeId × Nat × Nat × List Value) :=
  match P.underlying t with
  | some (.slice e) => (P.info? e).bind fun i => i.zero.bind fun z => if z.cells.size = i.size ∧ 0 < i.size then some (e, i.size, i.bytes, z.cells.toList) else none
  | _ => none
theorem elemOk_ok {t e : TypeId} {sz bytes : Nat} {z : List Value} (h : elemOk P t = some (e, sz, bytes, z)) : ElemOk P t e sz bytes ∧ (zeroOf P e).map (·.cells.toList) = some z := by
  unfold elemOk at h
  split at h
  · rename_i e' hu
    obtain ⟨i, hi, h⟩ := Option.bind_eq_some_iff.1 h
    obtain ⟨z', hz, h⟩ := Option.bind_eq_some_iff.1 h
    split at h
    · rename_i hq
      simp only [Option.some.injEq, Prod.mk.injEq] at h
      obtain ⟨rfl, rfl, rfl, rfl⟩ := h
      exact ⟨⟨hu, ⟨i, z', hi, hz, rfl, hq.1, rfl⟩, hq.2⟩, by simp [zeroOf, hi, hz]⟩
    · cases h
  · cases h

def evMake (P : Program) (t : TypeId) (l c : AV) (h : Option Hint) : Option Ev :=
  match l, c, elemOk P t, h with
  | .v (.int _ len), .v (.int _ cap), some (e, sz, bytes, z), some (.nm n) => some ⟨.own n, [], [(n, some (.row sz e len.toNat (List.replicate len.toNat z)))], [0 ≤ len, len ≤ cap, cap * bytes ≤ 281474976710656, cap ≤ 9223372036854775807]⟩
  | .v (.int _ len), .v (.int _ cap), some (e, sz, bytes, z), some (.app n k rows) => some ⟨.own n, [], [(n, some (.row sz e k rows))], [0 ≤ len ∧ len ≤ cap, cap * bytes ≤ 281474976710656, cap ≤ 9223372036854775807, List.replicate len.toNat z = rows ∧ len.toNat = k]⟩
  | _, _, _, _ => none
theorem evMake_ok {t : TypeId} {x y : Operand} {h : Option Hint} {e : Ev} (ho : o.op = .makeSlice t x y) (he : evMake P t (evA T x) (evA T y) h = some e) (hc : All e.cond) : Fits P o T H e := by
  unfold Fits
  rw [ho]
  show OpOk P o [evA T x, evA T y] _ _ _
  unfold evMake at he
  generalize evA T x = l at he
  generalize evA T y = c at he
  split at he
  · rename_i kl len kc cap e' sz bytes z n hel
    cases he
    obtain ⟨h1, h2⟩ := elemOk_ok hel
    obtain ⟨c1, c2, c3, c4⟩ := hc.four
    simp only [updL_one]
    exact ok_make ho h1 h2 (fun m => rfl) c1 c2 c3 c4
  · rename_i kl len kc cap e' sz bytes z n k rows hel
    cases he
    obtain ⟨h1, h2⟩ := elemOk_ok hel
    obtain ⟨c1, c3, c4, c5⟩ := hc.four
    simp only [updL_one]
    rw [← c5.1, ← c5.2]
    exact ok_make ho h1 h2 (fun m => rfl) c1.1 c1.2 c3 c4
  · cases he

def evLen (P : Program) (t : TypeId) (av : AV) (H : HL) : Option Ev :=
  match P.underlying t, av with
  | some (.slice _), .ro _ k _ => some ⟨.v (.int .i64 k), [], [], []⟩
  | some (.slice _), .v (.slice none 0 0) => some ⟨.v (.int .i64 0), [], [], []⟩
  | some (.slice _), .own n => match look H n with
    | some (.row _ _ k _) => some ⟨.v (.int .i64 k), [n], [], []⟩
    | _ => none
  | _, _ => none
theorem evLen_ok {t : TypeId} {x : Operand} {e : Ev} (ho : o.op = .call { callee := .builtin .len, args := #[x], argTypes := #[t] }) (he : evLen P t (evA T x) H = some e) : Fits P o T H e := by
  unfold Fits
  rw [ho]
  show OpOk P o [evA T x] _ _ _
  unfold evLen at he
  generalize evA T x = av at he
  split at he
  · rename_i ht
    cases he
    exact ok_len ho ht (.inl ⟨_, _, rfl⟩)
  · rename_i ht
    cases he
    exact ok_len ho ht (.inr (.inr ⟨rfl, rfl⟩))
  · rename_i n ht
    split at he
    · rename_i hl
      cases he
      exact ok_len ho ht (.inr (.inl ⟨n, _, _, _, rfl, pre_self hl⟩))
    · cases he
  · cases he

def srcRd : AV → List Nat
  | .own m => [m]
  | _ => []
def evAppend (P : Program) (t : TypeId) (sA sB : AV) (H : HL) (h : Option Hint) : Option Ev :=
  match elemOk P t, h with
  | some (e, sz, bytes, _), some (.app n' k' rows') => match sA with
    | .own n => match look H n with
      | some (.row sz' te k rows) => match srcRows (look (preOf H (n :: srcRd sB))) sz sB with
        | some (m, rows2) => if sz' = sz ∧ te = e ∧ (look H n').isNone = true ∧ (preOf H (n :: srcRd sB)).all (fun x => !x.2.uses n') = true ∧ n ≠ n' then
            some ⟨.own n', n :: srcRd sB, [(n', some (.row sz e k' rows')), (n, none)], [∀ r ∈ rows2, ∀ u ∈ r, u.oneCell' = true, (k + m) * bytes ≤ 140737488355328, k + m ≤ maxLen, rows ++ rows2 = rows' ∧ k + m = k']⟩ else none
        | none => none
      | _ => none
    | .v (.slice none 0 0) => match srcRows (look (preOf H (srcRd sB))) sz sB with
      | some (m, rows2) => if (look H n').isNone = true ∧ (preOf H (srcRd sB)).all (fun x => !x.2.uses n') = true then
          some ⟨.own n', srcRd sB, [(n', some (.row sz e k' rows'))], [∀ r ∈ rows2, ∀ u ∈ r, u.oneCell' = true, m * bytes ≤ 140737488355328, m ≤ maxLen, rows2 = rows' ∧ m = k']⟩ else none
      | none => none
    | _ => none
  | _, _ => none
theorem all_uses {n : Nat} : ∀ {L : HL}, L.all (fun x => !x.2.uses n) = true → ∀ m o, look L m = some o → o.uses n = false
  | [], _, m, o, h => by cases h
  | (k, x) :: L, h, m, o, hm => by
    simp only [List.all_cons, Bool.and_eq_true, Bool.not_eq_true'] at h
    simp only [look] at hm
    split at hm
    · obtain rfl := Option.some.inj hm; exact h.1
    · exact all_uses h.2 m o hm
theorem pre_none {n : Nat} {rd : List Nat} (h : (look H n).isNone = true) : look (preOf H rd) n = none := by
  rw [look_preOf]
  split
  · simpa using h
  · rfl
theorem evAppend_ok {t : TypeId} {x y : Operand} {h : Option Hint} {e : Ev} (ho : o.op = .call { callee := .builtin .append, args := #[x, y], argTypes := #[t, t] }) (he : evAppend P t (evA T x) (evA T y) H h = some e) (hc : All e.cond) : Fits P o T H e := by
  unfold Fits
  rw [ho]
  show OpOk P o [evA T x, evA T y] _ _ _
  unfold evAppend at he
  generalize evA T x = sA at he
  generalize evA T y = sB at he
  split at he
  · rename_i e' sz bytes z n' k' rows' hel
    obtain ⟨h1, h2⟩ := elemOk_ok hel
    split at he
    · rename_i n
      split at he
      · rename_i sz' te k rows hl
        split at he
        · rename_i m rows2 hsrc
          split at he
          · rename_i hq
            obtain ⟨rfl, rfl, hn', hu, hne⟩ := hq
            cases he
            obtain ⟨c1, c2, c3, c4⟩ := hc.four
            simp only [updL_two]
            rw [← c4.1, ← c4.2]
            exact ok_append ho h1 (.inl ⟨rfl, by rw [look_preOf]; simp [hl]⟩) hsrc (pre_none hn') (all_uses hu) c1 c3 c2
          · cases he
        · cases he
      · cases he
    · split at he
      · rename_i m rows2 hsrc
        split at he
        · rename_i hq
          obtain ⟨hn', hu⟩ := hq
          cases he
          obtain ⟨c1, c2, c3, c4⟩ := hc.four
          simp only [updL_one]
          rw [← c4.1, ← c4.2]
          have := ok_append (n := n') (k := 0) (rows := []) ho h1 (.inr ⟨rfl, pre_none hn', rfl, rfl⟩) hsrc (pre_none hn') (all_uses hu) c1 (by simpa using c3) (by simpa using c2)
          simp only [Nat.zero_add, List.nil_append] at this
          have e2 : updH (look (preOf H (srcRd sB))) n' none = look (preOf H (srcRd sB)) := by
            funext q
            by_cases eq : q = n'
            · rw [eq, updH_same, pre_none hn']
            · rw [updH_other _ _ eq]
          rwa [e2] at this
        · cases he
      · cases he
    · cases he
  · cases he
end
end Go.Proofs.YtahobmjchppciaaDoor.Sx
