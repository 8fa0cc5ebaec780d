/- Arguments laid open for contracts over what is known: slices of whole numbers, or of structs of such, as rows that are only read; a call that owes nothing of blocks changes nothing. -/
import Derived.Test.YtahobmjchppciaaDoorSx18
import Derived.OpenShut
import Derived.Deep.Slices
import Derived.Deep.Fields
import Derived.SizedLaws
import Derived.ChangeSlices
import Derived.Below
namespace Go.Proofs.YtahobmjchppciaaDoor.Sx
open Go Go.ChangeShapes Go.WideShapes Go.RowKit Go.Deep
set_option linter.unusedVariables false
set_option linter.unusedSimpArgs false

def flatFs (P : Program) (F : TypeId → Option (List IntKind)) : Nat → List Field → Option (List IntKind)
  | _, [] => some []
  | off, f :: r => match F f.type with
    | none => none
    | some l => if f.offset = off ∧ P.cellsOf f.type = l.length then (match flatFs P F (off + l.length) r with | none => none | some m => some (l ++ m)) else none
/-- The kinds of a type's cells, if all are whole numbers. -/
def flat (P : Program) : Nat → TypeId → Option (List IntKind)
  | 0, _ => none
  | n + 1, t => match P.underlying t with
    | some (.int k) => some [k]
    | some (.array m e) => (match flat P n e with
      | none => none
      | some l => if P.cellsOf e = l.length ∧ P.cellsOf t = m * l.length then some (List.replicate m l).flatten else none)
    | some (.struct fs) => (match flatFs P (flat P n) 0 fs.toList with
      | none => none
      | some l => if P.cellsOf t = l.length then some l else none)
    | _ => none
def cells : List IntKind → List Int → List Value
  | k :: ks, n :: ns => .int k n :: cells ks ns
  | _, _ => []
def wfs : List IntKind → List Int → Prop
  | k :: ks, n :: ns => (Lit.int k n).wf = true ∧ wfs ks ns
  | _, _ => True
theorem cells_length : ∀ (ks : List IntKind) (ns : List Int), ns.length = ks.length → (cells ks ns).length = ks.length
  | [], [], _ => rfl
  | _ :: ks, _ :: ns, h => by simp only [cells, List.length_cons] at h ⊢; rw [cells_length ks ns (by omega)]
  | [], _ :: _, h => by simp at h
  | _ :: _, [], h => by simp at h
theorem cells_append : ∀ (ks : List IntKind) (ns : List Int) (ls : List IntKind) (ms : List Int), ns.length = ks.length → cells (ks ++ ls) (ns ++ ms) = cells ks ns ++ cells ls ms
  | [], [], _, _, _ => rfl
  | _ :: ks, _ :: ns, ls, ms, h => by simp only [List.cons_append, cells]; rw [cells_append ks ns ls ms (by simpa using h)]
  | [], _ :: _, _, _, h => by simp at h
  | _ :: _, [], _, _, h => by simp at h
theorem wfs_append : ∀ (ks : List IntKind) (ns : List Int) (ls : List IntKind) (ms : List Int), ns.length = ks.length → wfs ks ns → wfs ls ms → wfs (ks ++ ls) (ns ++ ms)
  | [], [], _, _, _, _, h => h
  | _ :: ks, _ :: ns, ls, ms, h, h1, h2 => ⟨h1.1, wfs_append ks ns ls ms (by simpa using h) h1.2 h2⟩
  | [], _ :: _, _, _, h, _, _ => by simp at h
  | _ :: _, [], _, _, h, _, _ => by simp at h
theorem cells_one : ∀ (ks : List IntKind) (ns : List Int) (u : Value), u ∈ cells ks ns → u.oneCell' = true
  | k :: ks, n :: ns, u, h => by
    rcases List.mem_cons.1 h with rfl | h
    · rfl
    · exact cells_one ks ns u h
  | [], _, _, h => by cases h
  | _ :: _, [], _, h => by cases h

section
variable {H : Type} {enc : TypeId × Value → H} {P : Program} {w : World} {base : Nat} {spare : Nat → Bool} {held : Bool}
/-- What a reading says of cells: they are numbers of these kinds. -/
def Nums (ks : List IntKind) (cs : List Value) : Prop := ∃ ns : List Int, ns.length = ks.length ∧ cs = cells ks ns ∧ wfs ks ns
theorem Nums.append {ks ls : List IntKind} {cs ds : List Value} (h : Nums ks cs) (h' : Nums ls ds) : Nums (ks ++ ls) (cs ++ ds) := by
  obtain ⟨ns, h1, rfl, h2⟩ := h
  obtain ⟨ms, h3, rfl, h4⟩ := h'
  exact ⟨ns ++ ms, by simp [h1, h3], (cells_append ks ns ls ms h1).symm, wfs_append ks ns ls ms h1 h2 h4⟩
theorem nums_chunks (l : List IntKind) : ∀ (m : Nat) (cs : List Value), cs.length = m * l.length → (∀ i, i < m → Nums l ((cs.drop (i * l.length)).take l.length)) → Nums (List.replicate m l).flatten cs
  | 0, cs, hl, _ => by
    have : cs = [] := List.eq_nil_of_length_eq_zero (by simpa using hl)
    subst this
    exact ⟨[], rfl, rfl, trivial⟩
  | m + 1, cs, hl, h => by
    have h0 := h 0 (by omega)
    rw [Nat.zero_mul, List.drop_zero] at h0
    have hr := nums_chunks l m (cs.drop l.length) (by rw [List.length_drop, hl, Nat.add_mul, Nat.one_mul]; omega) (fun i hi => by
      have := h (i + 1) (by omega)
      rw [List.drop_drop, Nat.add_comm l.length]
      rwa [Nat.add_mul, Nat.one_mul] at this)
    have := h0.append hr
    rw [List.take_append_drop] at this
    rw [List.replicate_succ, List.flatten_cons]
    exact this
theorem flatFs_open {F : TypeId → Option (List IntKind)} : ∀ (fs : List Field) (off : Nat) (ks : List IntKind) (cs : List Value), flatFs P F off fs = some ks → cs.length = off + ks.length →
    (∀ f, f ∈ fs → ∀ l, F f.type = some l → Nums l ((cs.drop f.offset).take (P.cellsOf f.type))) → Nums ks (cs.drop off)
  | [], off, ks, cs, h, hl, _ => by
    simp only [flatFs, Option.some.injEq] at h
    subst h
    rw [List.drop_eq_nil_of_le (by simpa using Nat.le_of_eq hl)]
    exact ⟨[], rfl, rfl, trivial⟩
  | f :: r, off, ks, cs, h, hl, hf => by
    unfold flatFs at h
    split at h
    · cases h
    · rename_i l hF
      split at h
      · rename_i hc
        split at h
        · cases h
        · rename_i m hm
          simp only [Option.some.injEq] at h
          subst h
          have h0 := hf f List.mem_cons_self l hF
          rw [hc.1, hc.2] at h0
          have hr := flatFs_open r (off + l.length) m cs hm (by rw [hl, List.length_append]; omega) (fun g hg => hf g (List.mem_cons_of_mem _ hg))
          have := h0.append hr
          rw [← List.drop_drop, List.take_append_drop] at this
          exact this
      · cases h
theorem flat_open : ∀ (n : Nat) (t : TypeId) (ks : List IntKind) (fuel : Nat) (cs : List Value) (x : DataW H × List MemPlace), flat P n t = some ks → DataW.trod enc P w base spare held fuel t cs = some x → Nums ks cs
  | 0, _, _, _, _, _, h, _ => by cases h
  | n + 1, t, ks, fuel, cs, x, h, ht => by
    unfold flat at h
    split at h
    · rename_i k hu
      simp only [Option.some.injEq] at h
      subst h
      obtain ⟨a, rfl, _, hw⟩ := DataW.trod_int hu ht
      exact ⟨[a], rfl, rfl, hw, trivial⟩
    · rename_i m e hu
      split at h
      · cases h
      · rename_i l hl
        split at h
        · rename_i hc
          simp only [Option.some.injEq] at h
          subst h
          obtain ⟨xs, q, _, _, hlen, hxl, hi⟩ := DataW.trod_array hu ht
          refine nums_chunks l m cs (hlen.trans hc.2) (fun i him => ?_)
          have h1 := hi i him
          rw [hc.1, List.getElem?_eq_getElem (by omega)] at h1
          exact flat_open n e l q _ _ hl h1
        · cases h
    · rename_i fs hu
      split at h
      · cases h
      · rename_i l hl
        split at h
        · rename_i hc
          simp only [Option.some.injEq] at h
          subst h
          obtain ⟨xs, q, _, _, hlen, hxl, hi⟩ := DataW.trod_struct hu ht
          have := flatFs_open (P := P) fs.toList 0 l cs hl (by rw [hlen, hc]; omega) (fun f hf l' hl' => by
            obtain ⟨i, hil, he⟩ := List.mem_iff_getElem.1 hf
            have hif : fs[i]? = some f := by
              rw [← Array.getElem?_toList, List.getElem?_eq_getElem hil, he]
            have h1 := hi i f hif
            have hi2 : i < xs.length := by rw [hxl]; simpa using hil
            rw [List.getElem?_eq_getElem hi2] at h1
            exact flat_open n f.type l' q _ _ hl' h1)
          simpa using this
        · cases h
    · cases h
/-- A slice of such elements, as rows that are only read. -/
theorem open_ro {t e : TypeId} {a : Option Addr} {len cap fuel : Nat} {x : DataW H × List MemPlace} {n : Nat} {ks : List IntKind} (hu : P.underlying t = some (.slice e)) (hf : flat P n e = some ks) (hC : P.cellsOf e = ks.length) (h0 : 0 < ks.length)
    (h : DataW.trod enc P w base spare held fuel t [.slice a len cap] = some x) : ∃ rows : List (List Int), (∀ r ∈ rows, r.length = ks.length ∧ wfs ks r) ∧ rows.length = len ∧ len ≤ maxLen ∧ ∀ ρ, Rep ρ (fun b => w.heap[b]?) (.ro ks.length rows.length (rows.map (cells ks))) (.slice a len cap) := by
  rcases open_slice hu h with ⟨hcs, hx⟩ | ⟨a', len', cap', m, q, D, Pl, hcs, _, hl, hm, hmm, hx, hi⟩
  · simp at hcs
    obtain ⟨rfl, rfl, rfl⟩ := hcs
    exact ⟨[], by simp, rfl, Nat.zero_le _, fun ρ => .ro _ _ _ _ _ (.inl rfl) rfl (Nat.le_refl _) fun _ => rfl⟩
  · simp at hcs
    obtain ⟨rfl, rfl, rfl⟩ := hcs
    have hlm : len ≤ m := by rw [hmm]; split <;> omega
    have each : ∀ i, ∃ ns : List Int, i < len → ns.length = ks.length ∧ wfs ks ns ∧ ∀ z u, (cells ks ns)[z]? = some u → w.cell? (a'.add (i * ks.length + z)) = some u := by
      intro i
      by_cases hil : i < len
      · obtain ⟨cs', hc, ht'⟩ := hi i (by omega)
        rw [hC] at hc
        obtain ⟨ns, h1, h2, h3⟩ := flat_open n e ks q _ _ hf ht'
        obtain ⟨_, hcl, hat⟩ := World.cells?_some hc
        refine ⟨ns, fun _ => ⟨h1, h3, fun z u hz => ?_⟩⟩
        have hzl : z < ks.length := by
          have := (List.getElem?_eq_some_iff.1 hz).1
          rwa [cells_length ks ns h1] at this
        have h4 := hat z hzl
        rw [h2, hz] at h4
        rw [← Go.Deep.add_add]
        exact h4
      · exact ⟨[], fun h => absurd h hil⟩
    obtain ⟨f, hf2⟩ := Classical.axiomOfChoice each
    refine ⟨(List.range len).map f, ?_, by simp, Nat.le_trans hl hm, fun ρ => ?_⟩
    · intro r hr
      obtain ⟨i, hi', rfl⟩ := List.mem_map.1 hr
      have := hf2 i (List.mem_range.1 hi')
      exact ⟨this.1, this.2.1⟩
    · have hrep : RoAt (fun b => w.heap[b]?) (some a') ks.length (((List.range len).map f).map (cells ks)) := by
        by_cases hz : len = 0
        · left; simp [hz]
        right
        obtain ⟨b0, o0, s0⟩ := a'
        have c0 := (hf2 0 (by omega)).2.2 0
        have l0 := (hf2 0 (by omega)).1
        have hcl : 0 < (cells ks (f 0)).length := by rw [cells_length ks _ l0]; exact h0
        have c1 := c0 _ (List.getElem?_eq_getElem hcl)
        simp only [Nat.zero_mul, Nat.add_zero, Addr.add, if_true] at c1
        unfold World.cell? at c1
        simp only at c1
        split at c1
        · rename_i cs tt fr hb
          split at c1
          · cases c1
          · rename_i hs
            have hs : s0 = none := by simpa using hs
            subst hs
            refine ⟨b0, o0, cs, tt, fr, rfl, hb, fun i row hi' => ?_⟩
            simp only [List.getElem?_map, Option.map_eq_some_iff] at hi'
            obtain ⟨r, ⟨i', hi', rfl⟩, rfl⟩ := hi'
            rw [List.getElem?_eq_some_iff] at hi'
            obtain ⟨hi2, hi3⟩ := hi'
            have hi4 : i < len := by simpa using hi2
            have : i' = i := by rw [← hi3]; simp
            subst this
            obtain ⟨h1, _, h3⟩ := hf2 i' hi4
            refine ⟨cells_length ks _ h1, fun j u hj => ?_⟩
            have h4 := h3 j u hj
            rw [add_plain, cell_of_block hb] at h4
            rw [Nat.add_assoc, ← Array.getElem?_toList]; exact h4
        · cases c1
      have := Rep.ro (ρ := ρ) (D := fun b => w.heap[b]?) ks.length len (((List.range len).map f).map (cells ks)) (some a') cap hrep (by simp) hl (fun h => by cases h)
      rwa [show ((List.range len).map f).length = len by simp]
end
/-- A call that owes nothing of blocks: what was there is as it was. -/
theorem Ok.below {P : Program} {f : FuncId} {args : List AV} {x : Value} (h : Ok P f args (look []) (.v x) (postOf [] [])) {W : World} {ρ : Names} {vals : List Value} (hr : Reps ρ (fun b => W.heap[b]?) args vals) (g : GG (fun b => W.heap[b]?)) : Calls P f vals.toArray W fun e W' => e = .returned x ∧ Below W.heap.size W W' := by
  refine (h ρ _ W vals hr ⟨fun n o ho => (by cases ho), fun n m b h => absurd rfl h, fun n b h => absurd rfl h, fun b o h => h, g⟩).mono fun e W' q => ?_
  obtain ⟨ρ', D', v, rfl, t, hv⟩ := q
  cases hv
  exact ⟨rfl, t.kp.os, t.kp.tape, t.kp.output, t.kp.size, fun b hb => t.kp.block b hb fun ⟨n, h1, _⟩ => h1 rfl⟩
end Go.Proofs.YtahobmjchppciaaDoor.Sx
