/- Regions: operations as steps; whatever order they are drawn in. -/
import Derived.Test.YtahobmjchppciaaDoorSx2
namespace Go.Proofs.YtahobmjchppciaaDoor.Sx
open Go Go.RowKit

/-- An operation, as a step of the blocks that it looks at. -/
def OpOk (P : Program) (o : Oper) (avs : List AV) (pre : Hp) (out : AV) (post : Hp) : Prop :=
  ∀ (ρ : Names) (D : Still) (w : World) (a : Act), Reps ρ D avs (o.op.operands.toList.map a.eval) → Sat (fun _ => True) ρ D pre w →
    ∀ (K : Act → World → Prop) (Q : Exit → Act → World → Prop),
      (∀ v w' ρ' D', Step (fun n => post n ≠ none ∧ pre n = none) pre post ρ D w ρ' D' w' → Rep ρ' D' out v → K (a.put o.dst v) w') → o.wp P a w K Q

/-- A step of a region, as a certificate tells it. rd: names that it looks at; ch: names that change, or are new. -/
structure Rec where
  go : Bool
  rd : List Nat
  ch : List Nat
  pre : Hp
  post : Hp
  out : AV

/-- What stands at a place behind some of the steps. -/
def after {L V : Type} (wr : Nat → L → Option V) (S : Nat → Bool) (s0 : L → V) : Nat → L → V
  | 0, l => s0 l
  | m + 1, l => if S m then (match wr m l with | some v => v | none => after wr S s0 m l) else after wr S s0 m l

section
variable {L V : Type} {wr : Nat → L → Option V} {s0 : L → V}
theorem after_agree {S S' : Nat → Bool} {l : L} : ∀ m, (∀ i, i < m → (wr i l).isSome = true → S i = S' i) → after wr S s0 m l = after wr S' s0 m l
  | 0, _ => rfl
  | m + 1, h => by
    have ih := after_agree m (fun i hi => h i (by omega))
    have hm := h m (by omega)
    simp only [after]
    cases hw : wr m l with
    | none => simp only [ih, ite_self]
    | some v =>
      rw [hw] at hm
      have := hm rfl
      rw [this, ih]
theorem after_false : ∀ (m : Nat) (l : L), after wr (fun _ => false) s0 m l = s0 l
  | 0, _ => rfl
  | m + 1, l => by simp only [after]; simpa using after_false m l
theorem after_lt {m i : Nat} {l : L} (h : i ≤ m) : after wr (fun k => decide (k < i)) s0 m l = after wr (fun _ => true) s0 i l := by
  induction m with
  | zero =>
    have e : i = 0 := Nat.le_zero.1 h
    rw [e]; rfl
  | succ m ih =>
    by_cases e : i = m + 1
    · subst e
      exact after_agree _ (fun k hk _ => by simp; omega)
    · simp only [after]
      rw [if_neg (by simp; omega)]
      exact ih (by omega)
theorem after_insert {S : Nat → Bool} {j : Nat} {l : L} (hj : S j = false) : ∀ m, j < m → (∀ i, j < i → i < m → S i = true → (wr j l).isSome = true → wr i l = none) →
    after wr (fun k => S k || k == j) s0 m l = match wr j l with | some v => v | none => after wr S s0 m l
  | 0, h, _ => by omega
  | m + 1, h, hc => by
    by_cases e : j = m
    · subst e
      have ih : after wr (fun k => S k || k == j) s0 j l = after wr S s0 j l := after_agree _ (fun i hi _ => by simp; intro e; omega)
      simp only [after, beq_self_eq_true, Bool.or_true, if_true, hj, Bool.false_eq_true, if_false]
      cases wr j l with
      | none => exact ih
      | some v => rfl
    · have ih := after_insert hj m (by omega) (fun i h1 h2 => hc i h1 (by omega))
      have hne : (m == j) = false := by simp; omega
      simp only [after, hne, Bool.or_false]
      rw [ih]
      cases hs : S m with
      | false => simp
      | true =>
        simp only [if_true]
        cases hw : wr j l with
        | none => rfl
        | some v =>
          have := hc m (by omega) (by omega) hs (by rw [hw]; rfl)
          rw [this]
end

def wrT (ops : Array Oper) (rs : Nat → Rec) (i : Nat) (t : Nat) : Option AV :=
  match (ops[i]?).bind (·.dst) with
  | some d => if d = t then some (rs i).out else none
  | none => none
def wrH (rs : Nat → Rec) (i : Nat) (n : Nat) : Option (Option Ob) := if (rs i).ch.contains n then some ((rs i).post n) else none

theorem wrT_some {ops : Array Oper} {rs : Nat → Rec} {i t : Nat} {v : AV} (h : wrT ops rs i t = some v) : v = (rs i).out ∧ (ops[i]?).bind (fun (x : Oper) => x.dst) = some t := by
  unfold wrT at h
  cases hd : (ops[i]?).bind (fun (x : Oper) => x.dst) with
  | none => rw [hd] at h; cases h
  | some d =>
    rw [hd] at h
    simp only at h
    split at h
    · rename_i e; exact ⟨(Option.some.inj h).symm, by rw [e]⟩
    · cases h
theorem wrH_some {rs : Nat → Rec} {i n : Nat} {v : Option Ob} (h : wrH rs i n = some v) : v = (rs i).post n ∧ (rs i).ch.contains n = true := by
  unfold wrH at h
  split at h
  · exact ⟨(Option.some.inj h).symm, by assumption⟩
  · cases h
/-- The temporaries behind some steps, and the blocks. -/
def tAft (ops : Array Oper) (rs : Nat → Rec) (S : Nat → Bool) (T0 : Nat → AV) : Nat → AV := after (wrT ops rs) S T0 ops.size
def hAft (ops : Array Oper) (rs : Nat → Rec) (S : Nat → Bool) (H0 : Hp) : Hp := after (wrH rs) S H0 ops.size
def tAt (ops : Array Oper) (rs : Nat → Rec) (T0 : Nat → AV) (i : Nat) : Nat → AV := after (wrT ops rs) (fun _ => true) T0 i
def hAt (rs : Nat → Rec) (H0 : Hp) (i : Nat) : Hp := after (wrH rs) (fun _ => true) H0 i

/-- What an operand is known to be. -/
def evT (T : Nat → AV) : Operand → AV
  | .tmp t => T t
  | .const v => .v v
  | .global _ => .junk
  | .func f => .v (.func (.func f) #[] #[])

/-- How many temporaries a call has, and what it has deferred. -/
structure FT where
  n : Nat
  ds : List Deferred
instance : Coe Nat FT := ⟨fun n => ⟨n, []⟩⟩
instance : Coe FT Nat := ⟨FT.n⟩
structure TRep (nt : FT) (ρ : Names) (D : Still) (T : Nat → AV) (a : Act) : Prop where
  size : a.tmps.size = nt.n
  reps : ∀ t, t < nt.n → Rep ρ D (T t) (a.tmps.getD t undef)
  defers : a.defers = nt.ds

theorem TRep.eval {nt : FT} {ρ : Names} {D : Still} {T : Nat → AV} {a : Act} (h : TRep nt ρ D T a) {x : Operand} (hx : ∀ t, x = .tmp t → t < nt) : Rep ρ D (evT T x) (a.eval x) := by
  cases x with
  | tmp t => exact h.reps t (hx t rfl)
  | const v => exact .v _
  | global g => exact .junk _
  | func f => exact .v _

/-- The names that a step tells of. -/
def Rec.tells (r : Rec) (n : Nat) : Bool := r.rd.contains n || r.ch.contains n

/-- Must two operations keep their order? (i, j unlike) -/
def conf (ops : Array Oper) (rs : Nat → Rec) (i j : Nat) : Bool :=
  (match (ops[i]?).bind (·.dst) with | some d => ((ops[j]?).map (·.looksAt ops)).any (·.contains d) || (ops[j]?).bind (·.dst) == some d | none => false) ||
  (match (ops[j]?).bind (·.dst) with | some d => ((ops[i]?).map (·.looksAt ops)).any (·.contains d) | none => false) ||
  (rs i).ch.any (rs j).tells || (rs j).ch.any (rs i).tells

/-- What a region's certificate owes. ord i j: does j wait for i? -/
structure Region (P : Program) (nt : Nat) (ops : Array Oper) (rs : Nat → Rec) (ord : Nat → Nat → Bool) (p0 : Hp) (T0 : Nat → AV) (H0 : Hp) : Prop where
  tmps : ∀ (j : Nat) (o : Oper), ops[j]? = some o → (∀ t, t ∈ o.looksAt ops → t < nt) ∧ (∀ d, o.dst = some d → d < nt)
  sub : ∀ j, j < ops.size → ∀ n, (rs j).pre n ≠ none → (rs j).rd.contains n = true ∧ hAt rs H0 j n = (rs j).pre n
  ch : ∀ j, j < ops.size → ∀ n, (rs j).ch.contains n = false → (rs j).post n = (rs j).pre n
  new : ∀ j, j < ops.size → ∀ n, (rs j).ch.contains n = true → (rs j).pre n = none → H0 n = none ∧ p0 n = none ∧ (∀ t, t < nt → (T0 t).uses n = false) ∧ (∀ m o, H0 m = some o → o.uses n = false) ∧
    ∀ k, k < ops.size → k ≠ j → ord j k = false → (rs k).tells n = false ∧ (rs k).out.uses n = false ∧ ∀ m o, (rs k).post m = some o → o.uses n = false
  want : ∀ (j : Nat) (o : Oper), ops[j]? = some o → match o.guard with
    | none => (rs j).go = true
    | some (g, want) => ∃ d, (ops[g]?).bind (fun (x : Oper) => x.dst) = some d ∧ ((∃ b, tAt ops rs T0 j d = AV.v (Value.bool b) ∧ (rs j).go = (b == want)) ∨ (tAt ops rs T0 j d = AV.v undef ∧ (rs j).go = false))
  ok : ∀ (j : Nat) (o : Oper), ops[j]? = some o → (rs j).go = true → OpOk P o (o.op.operands.toList.map (evT (tAt ops rs T0 j))) (rs j).pre (rs j).out (rs j).post
  skip : ∀ j, j < ops.size → (rs j).go = false → (rs j).out = .v undef ∧ (rs j).ch = []
  pairs : ∀ i j, i < j → j < ops.size → conf ops rs i j = true → ord i j = true

def Closed (ops : Array Oper) (S : Nat → Bool) : Prop := ∀ (j : Nat) (o : Oper), S j = true → ops[j]? = some o → ∀ e ∈ o.after, Region.binds .any e = true → S e.on = true
/-- j waits for i in every order. -/
def OrdOk (ops : Array Oper) (ord : Nat → Nat → Bool) : Prop := ∀ (S : Nat → Bool), Closed ops S → ∀ i j o, ord i j = true → ops[j]? = some o → (∀ e ∈ o.after, Region.binds .any e = true → S e.on = true) → S i = true

theorem after_src {L V : Type} {wr : Nat → L → Option V} {S : Nat → Bool} {s0 : L → V} {l : L} : ∀ m, after wr S s0 m l = s0 l ∨ ∃ k, k < m ∧ S k = true ∧ wr k l = some (after wr S s0 m l)
  | 0 => .inl rfl
  | m + 1 => by
    simp only [after]
    cases hs : S m with
    | false =>
      simp only [Bool.false_eq_true, if_false]
      rcases after_src m with h | ⟨k, h1, h2, h3⟩
      · exact .inl h
      · exact .inr ⟨k, by omega, h2, h3⟩
    | true =>
      simp only [if_true]
      cases hw : wr m l with
      | some v => exact .inr ⟨m, by omega, hs, by rw [hw]⟩
      | none =>
        rcases after_src m with h | ⟨k, h1, h2, h3⟩
        · exact .inl h
        · exact .inr ⟨k, by omega, h2, h3⟩

theorem Sat.part {mine : Nat → Prop} {ρ : Names} {D : Still} {H pre : Hp} {w : World} (s : Sat mine ρ D H w) (h : ∀ n o, pre n = some o → H n = some o) : Sat (fun _ => True) ρ D pre w := by
  have hne : ∀ n, pre n ≠ none → H n ≠ none := fun n hn => by
    obtain ⟨o, ho⟩ := Option.ne_none_iff_exists'.1 hn
    rw [h n o ho]; simp
  exact ⟨fun n o ho => s.hold n o (h n o ho), fun n m b h1 h2 h3 h4 => s.inj n m b (hne n h1) (hne m h2) h3 h4, fun n b h1 h2 => ⟨(s.dis n b (hne n h1) h2).1, trivial⟩, s.still, s.glob⟩

section
variable {P : Program} {nt : FT} {ops : Array Oper} {rs : Nat → Rec} {ord : Nat → Nat → Bool} {p0 : Hp} {T0 : Nat → AV} {H0 : Hp} {ρ0 : Names} {D0 : Still} {w0 : World} {Q : Exit → Act → World → Prop}

theorem TRep.put {ρ ρ' : Names} {D D' : Still} {T T' : Nat → AV} {a : Act} {d : Option Nat} {x : AV} {v : Value} (h : TRep nt ρ D T a) (hd : ∀ t, d = some t → t < nt.n) (hx : Rep ρ' D' x v)
    (hT : ∀ t, T' t = if d = some t then x else T t) (hD : D.le D') (hn : ∀ t, t < nt.n → ∀ n, (T t).uses n = true → ρ' n = ρ n) : TRep nt ρ' D' T' (a.put d v) := by
  have old : ∀ t, t < nt.n → Rep ρ' D' (T t) (a.tmps.getD t undef) := fun t ht => Rep.mono hD _ _ (hn t ht) (h.reps t ht)
  cases d with
  | none => exact ⟨h.size, fun t ht => by rw [hT t]; exact old t ht, h.defers⟩
  | some k =>
    refine ⟨by simp [Act.put, h.size], fun t ht => ?_, h.defers⟩
    rw [hT t]
    by_cases e : k = t
    · subst e
      rw [if_pos rfl]
      simp only [Act.put, Array.getD_eq_getD_getElem?]
      rw [Array.getElem?_setIfInBounds_self_of_lt (by rw [h.size]; exact ht)]
      exact hx
    · rw [if_neg (by simpa using e)]
      simp only [Act.put, Array.getD_eq_getD_getElem?]
      rw [Array.getElem?_setIfInBounds_ne e, ← Array.getD_eq_getD_getElem?]
      exact old t ht

theorem Region.one (R : Region P nt ops rs ord p0 T0 H0) {S : Nat → Bool} {j : Nat} {o : Oper} (hj : ops[j]? = some o) (hjS : S j = false)
    (hb1 : ∀ i, ord i j = true → S i = true) (nord : ∀ i, S i = true → i < ops.size → ord j i = false) {ρ : Names} {D : Still} {a : Act} {w : World}
    (hT : TRep nt ρ D (tAft ops rs S T0) a) (hH : St p0 ρ0 D0 w0 (hAft ops rs S H0) ρ D w) {K : Act → World → Prop}
    (hK : ∀ ρ' D' a' w', TRep nt ρ' D' (tAft ops rs (fun k => S k || k == j) T0) a' → St p0 ρ0 D0 w0 (hAft ops rs (fun k => S k || k == j) H0) ρ' D' w' → K a' w') :
    wpOp P ops Q j K a w := by
  have hjm : j < ops.size := (Array.getElem?_eq_some_iff.1 hj).1
  -- order
  have before : ∀ i, i < j → conf ops rs i j = true → S i = true := fun i hi hc => hb1 i (R.pairs i j hi hjm hc)
  have behind : ∀ i, j < i → i < ops.size → conf ops rs j i = true → S i = false := by
    intro i hi him hc
    cases hs : S i with
    | false => rfl
    | true =>
      have := nord i hs him
      rw [R.pairs j i hi him hc] at this
      cases this
  have tsame : ∀ t, t ∈ o.looksAt ops → tAft ops rs S T0 t = tAt ops rs T0 j t := by
    intro t ht
    refine Eq.trans (after_agree ops.size fun i hi hw => ?_) (after_lt (Nat.le_of_lt hjm))
    obtain ⟨v, hv⟩ := Option.isSome_iff_exists.1 hw
    have hd := (wrT_some hv).2
    rcases Nat.lt_trichotomy i j with h | h | h
    · rw [before i h (by simp [conf, hd, hj, ht]), decide_eq_true h]
    · subst h; rw [hjS, decide_eq_false (Nat.lt_irrefl _)]
    · rw [behind i h hi (by simp [conf, hd, hj, ht]), decide_eq_false (by omega)]
  have hsame : ∀ n, (rs j).tells n = true → hAft ops rs S H0 n = hAt rs H0 j n := by
    intro n hn
    refine Eq.trans (after_agree ops.size fun i hi hw => ?_) (after_lt (Nat.le_of_lt hjm))
    obtain ⟨v, hv⟩ := Option.isSome_iff_exists.1 hw
    have hc := (wrH_some hv).2
    rcases Nat.lt_trichotomy i j with h | h | h
    · rw [before i h ?_, decide_eq_true h]
      have : (rs i).ch.any (rs j).tells = true := List.any_eq_true.2 ⟨n, by simpa using hc, hn⟩
      simp [conf, this]
    · subst h; rw [hjS, decide_eq_false (Nat.lt_irrefl _)]
    · rw [behind i h hi ?_, decide_eq_false (by omega)]
      have : (rs i).ch.any (rs j).tells = true := List.any_eq_true.2 ⟨n, by simpa using hc, hn⟩
      simp [conf, this]
  have tnext : ∀ t, tAft ops rs (fun k => S k || k == j) T0 t = if o.dst = some t then (rs j).out else tAft ops rs S T0 t := by
    intro t
    have hwj : wrT ops rs j t = if o.dst = some t then some (rs j).out else none := by
      unfold wrT
      rw [hj]
      simp only [Option.bind_some]
      cases o.dst with
      | none => simp
      | some d => simp
    refine (after_insert hjS ops.size hjm fun i h1 h2 h3 h4 => ?_).trans ?_
    · cases hw : wrT ops rs i t with
      | none => rfl
      | some v =>
        have hdj : o.dst = some t := by
          rw [hwj] at h4
          split at h4
          · assumption
          · cases h4
        have hd := (wrT_some hw).2
        have := behind i h1 h2 (by simp [conf, hd, hj, hdj])
        rw [h3] at this
        cases this
    · rw [hwj]
      split
      · rename_i e
        split at e
        · rename_i e2; rw [if_pos e2]; exact (Option.some.inj e).symm
        · cases e
      · rename_i e
        split at e
        · cases e
        · rename_i e2; rw [if_neg e2]; rfl
  have hnext : ∀ n, hAft ops rs (fun k => S k || k == j) H0 n = if (rs j).ch.contains n = true then (rs j).post n else hAft ops rs S H0 n := by
    intro n
    refine (after_insert hjS ops.size hjm fun i h1 h2 h3 h4 => ?_).trans ?_
    · cases hw : wrH rs i n with
      | none => rfl
      | some v =>
        obtain ⟨v', hv'⟩ := Option.isSome_iff_exists.1 h4
        have c1 := (wrH_some hv').2
        have c2 := (wrH_some hw).2
        have : (rs j).ch.any (rs i).tells = true := List.any_eq_true.2 ⟨n, by simpa using c1, by show ((rs i).rd.contains n || (rs i).ch.contains n) = true; rw [c2, Bool.or_true]⟩
        have := behind i h1 h2 (by simp [conf, this])
        rw [h3] at this
        cases this
    · unfold wrH
      by_cases c : (rs j).ch.contains n = true
      · rw [if_pos c, if_pos c]
      · rw [if_neg c, if_neg c]; rfl
  -- what is new is named nowhere
  have fresh : ∀ n, (rs j).ch.contains n = true → (rs j).pre n = none → hAft ops rs S H0 n = none ∧ p0 n = none ∧ (∀ t, t < nt.n → (tAft ops rs S T0 t).uses n = false) ∧ (∀ m o, hAft ops rs S H0 m = some o → o.uses n = false) := by
    intro n h1 h2
    obtain ⟨a1, a2, a3, a4, a5⟩ := R.new j hjm n h1 h2
    have a5' : ∀ k, k < ops.size → S k = true → (rs k).tells n = false ∧ (rs k).out.uses n = false ∧ ∀ m o, (rs k).post m = some o → o.uses n = false := fun k hk hs =>
      a5 k hk (fun e => by rw [e, hjS] at hs; cases hs) (nord k hs hk)
    refine ⟨?_, a2, fun t ht => ?_, fun m o' hm => ?_⟩
    · rcases after_src (wr := wrH rs) (S := S) (s0 := H0) (l := n) ops.size with h | ⟨k, h1', h2', h3'⟩
      · exact h.trans a1
      · have := (a5' k h1' h2').1
        simp only [Rec.tells, (wrH_some h3').2, Bool.or_true] at this
        cases this
    · rcases after_src (wr := wrT ops rs) (S := S) (s0 := T0) (l := t) ops.size with h | ⟨k, h1', h2', h3'⟩
      · show (after (wrT ops rs) S T0 ops.size t).uses n = false
        rw [h]; exact a3 t ht
      · have := (a5' k h1' h2').2.1
        show (after (wrT ops rs) S T0 ops.size t).uses n = false
        rw [(wrT_some h3').1]; exact this
    · rcases after_src (wr := wrH rs) (S := S) (s0 := H0) (l := m) ops.size with h | ⟨k, h1', h2', h3'⟩
      · exact a4 m o' (h.symm.trans hm)
      · have := (a5' k h1' h2').2.2 m o'
        exact this ((wrH_some h3').1.symm.trans hm)
  obtain ⟨hlk, hdst⟩ := R.tmps j o hj
  have hopt : ∀ x ∈ o.op.operands, ∀ t, x = .tmp t → t ∈ o.looksAt ops := by
    intro x hx t e
    subst e
    exact List.mem_append_left _ (List.mem_filterMap.2 ⟨.tmp t, by simpa using hx, rfl⟩)
  -- wanted
  have hwant : Region.wanted o (yielded ops a.tmps) = (rs j).go := by
    have hw := R.want j o hj
    unfold Region.wanted
    cases hg : o.guard with
    | none => rw [hg] at hw; exact hw.symm
    | some gw =>
      obtain ⟨g, want⟩ := gw
      rw [hg] at hw
      obtain ⟨d, h1, h2⟩ := hw
      have hdl : d ∈ o.looksAt ops := List.mem_append_right _ (by rw [hg]; simp [h1])
      have hdt := hlk d hdl
      have hr := hT.reps d hdt
      rw [tsame d hdl] at hr
      simp only
      unfold yielded
      rw [h1]
      simp only [Option.bind_some]
      obtain ⟨y, hy⟩ : ∃ y, a.tmps[d]? = some y := ⟨_, Array.getElem?_eq_getElem (show d < a.tmps.size by rw [hT.size]; exact hdt)⟩
      rw [Array.getD_eq_getD_getElem?, hy] at hr
      rw [hy]
      simp only [Option.getD_some] at hr
      rcases h2 with ⟨b, h2, h3⟩ | ⟨h2, h3⟩
      · rw [h2] at hr
        cases hr
        rw [h3]
        cases b <;> cases want <;> rfl
      · rw [h2] at hr
        cases hr
        rw [h3]
        rfl
  unfold wpOp
  rw [hj]
  simp only
  rw [hwant]
  cases hgo : (rs j).go with
  | false =>
    obtain ⟨h1, h2⟩ := R.skip j hjm hgo
    rw [if_neg (by simp)]
    refine hK ρ D _ w (hT.put (fun t e => hdst t e) (x := (rs j).out) (by rw [h1]; exact .v _) tnext (Still.le_refl D) (fun _ _ _ _ => rfl)) ?_
    rw [show hAft ops rs (fun k => S k || k == j) H0 = hAft ops rs S H0 from funext fun n => by rw [hnext n, h2]; rfl]
    exact hH
  | true =>
    rw [if_pos rfl]
    refine .inl (R.ok j o hj hgo ρ D w a ?_ ?_ K Q fun v w' ρ' D' hst hv => ?_)
    · have key : ∀ (l : List Operand), (∀ x ∈ l, x ∈ o.op.operands) → Reps ρ D (l.map (evT (tAt ops rs T0 j))) (l.map a.eval) := by
        intro l
        induction l with
        | nil => exact fun _ => .nil
        | cons x l ih =>
          intro hl
          refine .cons ?_ (ih fun y hy => hl y (List.mem_cons_of_mem _ hy))
          have hx := hl x (List.mem_cons_self ..)
          have e : evT (tAt ops rs T0 j) x = evT (tAft ops rs S T0) x := by
            cases x with
            | tmp t => exact (tsame t (hopt _ hx t rfl)).symm
            | _ => rfl
          rw [e]
          exact hT.eval fun t et => hlk t (hopt _ hx t et)
      exact key _ fun x hx => by simpa using hx
    · refine hH.step.sat.part fun n ob hn => ?_
      obtain ⟨h1, h2⟩ := R.sub j hjm n (by rw [hn]; simp)
      rw [hsame n (by simp only [Rec.tells, h1, Bool.true_or]), h2, hn]
    · have hchg : ∀ n, (rs j).post n ≠ none → (rs j).pre n = none → (rs j).ch.contains n = true := by
        intro n h1 h2
        cases hc : (rs j).ch.contains n with
        | true => rfl
        | false => exact absurd ((R.ch j hjm n hc).trans h2) h1
      refine hK ρ' D' _ w' (hT.put (fun t e => hdst t e) hv tnext hst.le fun t ht n hu => hst.names n ?_) ?_
      · rintro ⟨h1, h2⟩
        have := (fresh n (hchg n h1 h2) h2).2.2.1 t ht
        rw [hu] at this
        cases this
      · have := hH.next (pre := (rs j).pre) (post := (rs j).post) (fun n hn => by
          obtain ⟨h1, h2⟩ := R.sub j hjm n hn
          rw [hsame n (by simp only [Rec.tells, h1, Bool.true_or]), h2]; exact hn) (fun n h1 h2 => by
          obtain ⟨b1, b2, _, b4⟩ := fresh n (hchg n h1 h2) h2
          exact ⟨b1, b2, fun m o' hm _ => b4 m o' hm⟩) hst
        rw [show hAft ops rs (fun k => S k || k == j) H0 = over (hAft ops rs S H0) (rs j).pre (rs j).post from funext fun n => by
          rw [hnext n]
          unfold over
          cases hc : (rs j).ch.contains n with
          | true =>
            rw [if_pos rfl]
            cases hp : (rs j).post n with
            | some x => rfl
            | none =>
              simp only
              cases hq : (rs j).pre n with
              | some x => rfl
              | none => exact ((fresh n hc hq).1).symm
          | false =>
            rw [if_neg (by simp), R.ch j hjm n hc]
            cases hq : (rs j).pre n with
            | none => rfl
            | some x =>
              obtain ⟨h1, h2⟩ := R.sub j hjm n (by rw [hq]; simp)
              rw [hsame n (by simp only [Rec.tells, h1, Bool.true_or]), h2, hq]]
        exact this
end
end Go.Proofs.YtahobmjchppciaaDoor.Sx
