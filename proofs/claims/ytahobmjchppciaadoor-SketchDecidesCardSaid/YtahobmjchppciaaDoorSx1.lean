/- What is known of a state, as data: values, blocks by name; what it says of a real state. -/
import Derived.Orders
import Derived.Below
import Derived.Laws.AppendOwn
import Derived.Laws.MakeOwn
import Derived.KernelRfl
import Derived.Lib.TrailingZeros
namespace Go.Proofs.YtahobmjchppciaaDoor.Sx
open Go Go.RowKit

/-- A value as far as it is known: itself; the address of a cell of a named block; a named row's whole slice; a slice that is only read, as its rows of cells; the address of a cell of such a slice's element, or of a named row's; a named map; a function; an interface's; cells; a tuple; anything. -/
inductive AV where
  | v (x : Value)
  | ptr (n off : Nat)
  | own (n : Nat)
  | ro (sz k : Nat) (rows : List (List Value))
  | ron (sz k : Nat) (rows : List (List Value))
  | roe (row : List Value) (off : Nat)
  | oe (n sz i off : Nat)
  | mp (n : Nat)
  | fn (f : Fn) (first captured : List AV)
  | ifc (t : TypeId) (x : AV)
  | agg (cs : List AV)
  | tup (vs : List AV)
  | junk

/-- A block. lit: a row that is full, and is written no more. -/
inductive Ob where
  | cells (cs : List AV) (t : TypeId)
  | row (sz : Nat) (e : TypeId) (k : Nat) (rows : List (List Value))
  | lit (sz : Nat) (e : TypeId) (k : Nat) (rows : List (List Value))

abbrev Names := Nat → Value
abbrev Still := Nat → Option Obj

/-- The block of a reference. -/
def blk : Value → Option Nat
  | .pointer (some a) => some a.block
  | .slice (some a) _ _ => some a.block
  | .map (some r) => some r
  | _ => none

/-- Rows of cells from a place of a block on. -/
def RoAt (D : Still) (base : Option Addr) (sz : Nat) (rows : List (List Value)) : Prop :=
  rows = [] ∨ ∃ b o cells t fr, base = some ⟨b, o, none⟩ ∧ D b = some (.cells cells t fr) ∧ ∀ (i : Nat) (row : List Value), rows[i]? = some row → row.length = sz ∧ ∀ (j : Nat) (x : Value), row[j]? = some x → cells[o + i * sz + j]? = some x

mutual
inductive Rep (ρ : Names) (D : Still) : AV → Value → Prop
  | v (x) : Rep ρ D (.v x) x
  | ptr (n off b : Nat) : ρ n = .pointer (some ⟨b, 0, none⟩) → Rep ρ D (.ptr n off) (.pointer (some ⟨b, off, none⟩))
  | own (n) : (ρ n).oneCell' = true → Rep ρ D (.own n) (ρ n)
  | ro (sz k rows base cap) : RoAt D base sz rows → rows.length = k → k ≤ cap → (base = none → cap = 0) → Rep ρ D (.ro sz k rows) (.slice base k cap)
  | ron (sz k rows base cap) : RoAt D (some base) sz rows → rows.length = k → k ≤ cap → Rep ρ D (.ron sz k rows) (.slice (some base) k cap)
  | roe (row b o off cells t fr) : D b = some (.cells cells t fr) → (∀ (j : Nat) (x : Value), row[j]? = some x → cells[o + j]? = some x) → Rep ρ D (.roe row off) (.pointer (some ⟨b, o + off, none⟩))
  | oe (n sz i off b len cap) : ρ n = .slice (some ⟨b, 0, none⟩) len cap → Rep ρ D (.oe n sz i off) (.pointer (some ⟨b, i * sz + off, none⟩))
  | mp (n) : (ρ n).oneCell' = true → Rep ρ D (.mp n) (ρ n)
  | fn (f a b c d) : Reps ρ D a c → Reps ρ D b d → Rep ρ D (.fn f a b) (.func f c.toArray d.toArray)
  | ifc (t x y) : Rep ρ D x y → Rep ρ D (.ifc t x) (.iface t y)
  | agg (cs vs) : Reps ρ D cs vs → Rep ρ D (.agg cs) (.agg vs.toArray)
  | tup (cs vs) : Reps ρ D cs vs → Rep ρ D (.tup cs) (.tuple vs.toArray)
  | junk (x) : Rep ρ D .junk x
inductive Reps (ρ : Names) (D : Still) : List AV → List Value → Prop
  | nil : Reps ρ D [] []
  | cons {a v as vs} : Rep ρ D a v → Reps ρ D as vs → Reps ρ D (a :: as) (v :: vs)
end

/-- Does it name n? -/
def AV.uses (n : Nat) : AV → Bool
  | .ptr m _ | .own m | .oe m _ _ _ | .mp m => m == n
  | .fn _ a b => usesL n a || usesL n b
  | .ifc _ x => x.uses n
  | .agg cs | .tup cs => usesL n cs
  | _ => false
where usesL (n : Nat) : List AV → Bool
  | [] => false
  | a :: as => a.uses n || usesL n as

/-- What a world's block holds, of what is known of it. -/
def Holds (ρ : Names) (D : Still) (w : World) (n : Nat) : Ob → Prop
  | .cells cs t => ∃ b vs, ρ n = .pointer (some ⟨b, 0, none⟩) ∧ w.heap[b]? = some (.cells vs.toArray t (0, 0)) ∧ Reps ρ D cs vs ∧ vs.all (·.oneCell') = true
  | .row sz e k rows => 0 < sz ∧ rows.length = k ∧ w.ownsRow 0 e sz (ρ n) k rows.flatten ∧ (∀ r ∈ rows, r.length = sz)
  | .lit sz e k rows => 0 < sz ∧ rows.length = k ∧ (∃ b fr, ρ n = .slice (some ⟨b, 0, none⟩) k k ∧ w.heap[b]? = some (.cells rows.flatten.toArray e fr)) ∧ (∀ r ∈ rows, r.length = sz)

abbrev Hp := Nat → Option Ob

/-- What only is read, of the package's variables. -/
def GG (D : Still) : Prop := ∃ cs t f, D 0 = some (.cells cs t f) ∧ ∀ j, j < 64 → cs[j]? = some (.int .u8 ((Lib.deBruijn64tab.getD j 0 : Nat) : Int))
/-- What is known of a world: each named block; no two names have one block; what only is read stands in blocks that no name has. 'mine': the blocks that may be changed. -/
structure Sat (mine : Nat → Prop) (ρ : Names) (D : Still) (H : Hp) (w : World) : Prop where
  hold : ∀ n o, H n = some o → Holds ρ D w n o
  inj : ∀ n m b, H n ≠ none → H m ≠ none → n ≠ m → blk (ρ n) = some b → blk (ρ m) ≠ some b
  dis : ∀ n b, H n ≠ none → blk (ρ n) = some b → D b = none ∧ mine b
  still : ∀ b o, D b = some o → w.heap[b]? = some o
  glob : GG D

/-- One world behind another: nothing but what is 'mine' and was there has changed. -/
structure Kp (mine : Nat → Prop) (w w' : World) : Prop where
  os : w'.os = w.os
  tape : w'.tape = w.tape
  output : w'.output = w.output
  size : w.heap.size ≤ w'.heap.size
  block : ∀ b, b < w.heap.size → ¬ mine b → w'.heap[b]? = w.heap[b]?

theorem Kp.refl (mine : Nat → Prop) (w : World) : Kp mine w w := ⟨rfl, rfl, rfl, Nat.le_refl _, fun _ _ _ => rfl⟩
theorem Kp.trans {mine : Nat → Prop} {a b c : World} (h : Kp mine a b) (k : Kp mine b c) : Kp mine a c :=
  ⟨k.os.trans h.os, k.tape.trans h.tape, k.output.trans h.output, Nat.le_trans h.size k.size, fun i hi hm => (k.block i (Nat.lt_of_lt_of_le hi h.size) hm).trans (h.block i hi hm)⟩
theorem Kp.mono {m m' : Nat → Prop} {w w' : World} (h : Kp m w w') (hm : ∀ b, b < w.heap.size → m b → m' b) : Kp m' w w' :=
  ⟨h.os, h.tape, h.output, h.size, fun b hb hn => h.block b hb (fun q => hn (hm b hb q))⟩

/-- What is only read stays so, and there may be more. -/
def Still.le (D D' : Still) : Prop := ∀ b o, D b = some o → D' b = some o
theorem GG.mono {D D' : Still} (h : D.le D') (g : GG D) : GG D' := (let ⟨cs, t, f, q, r⟩ := g; ⟨cs, t, f, h _ _ q, r⟩)
theorem Still.le_refl (D : Still) : D.le D := fun _ _ h => h
theorem Still.le_trans {A B C : Still} (h : A.le B) (k : B.le C) : A.le C := fun b o q => k b o (h b o q)

theorem RoAt.mono {D D' : Still} (h : D.le D') {base sz rows} (r : RoAt D base sz rows) : RoAt D' base sz rows := by
  rcases r with r | ⟨b, o, cells, t, fr, h1, h2, h3⟩
  · exact .inl r
  · exact .inr ⟨b, o, cells, t, fr, h1, h _ _ h2, h3⟩

mutual
theorem Rep.mono {ρ ρ' : Names} {D D' : Still} (hD : D.le D') : ∀ (a : AV) (v : Value), (∀ n, a.uses n = true → ρ' n = ρ n) → Rep ρ D a v → Rep ρ' D' a v
  | .v _, _, _, .v _ => .v _
  | .ptr n off, _, hn, .ptr _ _ b h => .ptr _ _ _ ((hn n (by simp [AV.uses])).trans h)
  | .own n, _, hn, .own _ h1 => by
    have e := hn n (by simp [AV.uses])
    have := Rep.own (ρ := ρ') (D := D') n (by rw [e]; exact h1)
    rwa [e] at this
  | .ro _ _ _, _, _, .ro _ _ _ _ _ h1 h2 h3 h4 => .ro _ _ _ _ _ (h1.mono hD) h2 h3 h4
  | .ron _ _ _, _, _, .ron _ _ _ _ _ h1 h2 h3 => .ron _ _ _ _ _ (h1.mono hD) h2 h3
  | .roe _ _, _, _, .roe _ _ _ _ _ _ _ h1 h2 => .roe _ _ _ _ _ _ _ (hD _ _ h1) h2
  | .oe n _ _ _, _, hn, .oe _ _ _ _ _ _ _ h => .oe _ _ _ _ _ _ _ ((hn n (by simp [AV.uses])).trans h)
  | .mp n, _, hn, .mp _ h1 => by
    have e := hn n (by simp [AV.uses])
    have := Rep.mp (ρ := ρ') (D := D') n (by rw [e]; exact h1)
    rwa [e] at this
  | .fn f a b, _, hn, .fn _ _ _ _ _ h1 h2 => .fn _ _ _ _ _ (Reps.mono hD a _ (fun n hu => hn n (by simp [AV.uses, hu])) h1) (Reps.mono hD b _ (fun n hu => hn n (by simp [AV.uses, hu])) h2)
  | .ifc t x, _, hn, .ifc _ _ _ h => .ifc _ _ _ (Rep.mono hD x _ (fun n hu => hn n (by simpa [AV.uses] using hu)) h)
  | .agg cs, _, hn, .agg _ _ h => .agg _ _ (Reps.mono hD cs _ (fun n hu => hn n (by simpa [AV.uses] using hu)) h)
  | .tup cs, _, hn, .tup _ _ h => .tup _ _ (Reps.mono hD cs _ (fun n hu => hn n (by simpa [AV.uses] using hu)) h)
  | .junk, _, _, .junk _ => .junk _
theorem Reps.mono {ρ ρ' : Names} {D D' : Still} (hD : D.le D') : ∀ (a : List AV) (v : List Value), (∀ n, AV.uses.usesL n a = true → ρ' n = ρ n) → Reps ρ D a v → Reps ρ' D' a v
  | [], _, _, .nil => .nil
  | a :: as, _, hn, .cons h1 h2 => .cons (Rep.mono hD a _ (fun n hu => hn n (by simp [AV.uses.usesL, hu])) h1) (Reps.mono hD as _ (fun n hu => hn n (by simp [AV.uses.usesL, hu])) h2)
end
theorem Reps.length {ρ : Names} {D : Still} : ∀ {a : List AV} {v : List Value}, Reps ρ D a v → a.length = v.length
  | _, _, .nil => rfl
  | _, _, .cons _ h => by simp [h.length]
theorem Reps.get {ρ : Names} {D : Still} : ∀ {a : List AV} {v : List Value}, Reps ρ D a v → ∀ (i : Nat) (x : AV), a[i]? = some x → ∃ y, v[i]? = some y ∧ Rep ρ D x y
  | _, _, .cons h _, 0, x, hx => by simp at hx; subst hx; exact ⟨_, rfl, h⟩
  | _, _, .cons _ h, i + 1, x, hx => by simp at hx; obtain ⟨y, h1, h2⟩ := h.get i x hx; exact ⟨y, by simpa using h1, h2⟩
theorem Reps.set {ρ : Names} {D : Still} : ∀ {a : List AV} {v : List Value}, Reps ρ D a v → ∀ i x y, Rep ρ D x y → Reps ρ D (a.set i x) (v.set i y)
  | _, _, .nil, _, _, _, _ => .nil
  | _, _, .cons _ h, 0, x, y, hx => .cons hx h
  | _, _, .cons h0 h, i + 1, x, y, hx => .cons h0 (h.set i x y hx)
theorem Reps.append {ρ : Names} {D : Still} : ∀ {a : List AV} {v : List Value} {b : List AV} {u : List Value}, Reps ρ D a v → Reps ρ D b u → Reps ρ D (a ++ b) (v ++ u)
  | _, _, _, _, .nil, h => h
  | _, _, _, _, .cons h0 h, k => .cons h0 (h.append k)
end Go.Proofs.YtahobmjchppciaaDoor.Sx
