/- A step that looks at some blocks alone: in a greater state; in regions, whatever their order. -/
import Derived.Test.YtahobmjchppciaaDoorSx1
namespace Go.Proofs.YtahobmjchppciaaDoor.Sx
open Go Go.RowKit

def Ob.uses (n : Nat) : Ob → Bool
  | .cells cs _ => AV.uses.usesL n cs
  | .row _ _ _ _ | .lit _ _ _ _ => false

theorem Holds.mono {ρ ρ' : Names} {D D' : Still} {w w' : World} {n : Nat} {o : Ob} (hD : D.le D') (hn : ρ' n = ρ n) (hu : ∀ m, o.uses m = true → ρ' m = ρ m)
    (hw : ∀ b, blk (ρ n) = some b → w'.heap[b]? = w.heap[b]?) (h : Holds ρ D w n o) : Holds ρ' D' w' n o := by
  cases o with
  | cells cs t =>
    obtain ⟨b, vs, h1, h2, h3, h4⟩ := h
    exact ⟨b, vs, hn.trans h1, (hw b (by rw [h1]; rfl)).trans h2, Reps.mono hD _ _ hu h3, h4⟩
  | row sz e k rows =>
    obtain ⟨h0, hk, ⟨h1, h2⟩, h3⟩ := h
    refine ⟨h0, hk, ⟨h1, ?_⟩, h3⟩
    rw [hn]
    rcases h2 with h2 | ⟨g, cap, cur, a, b, c, d⟩
    · exact .inl h2
    · exact .inr ⟨g, cap, cur, a, b, (hw g (by rw [a]; rfl)).trans c, d⟩
  | lit sz e k rows =>
    obtain ⟨h0, hk, ⟨b, fr, h1, h2⟩, h3⟩ := h
    exact ⟨h0, hk, ⟨b, fr, hn.trans h1, (hw b (by rw [h1]; rfl)).trans h2⟩, h3⟩

theorem Holds.lt {ρ : Names} {D : Still} {w : World} {n : Nat} {o : Ob} (h : Holds ρ D w n o) {b : Nat} (hb : blk (ρ n) = some b) : b < w.heap.size := by
  have key : ∀ {g : Nat} {ob : Obj}, w.heap[g]? = some ob → g < w.heap.size := fun {g ob} hg => (Array.getElem?_eq_some_iff.1 hg).1
  cases o with
  | cells cs t =>
    obtain ⟨g, vs, h1, h2, _⟩ := h
    rw [h1] at hb
    cases hb
    exact key h2
  | row sz e k rows =>
    obtain ⟨_, _, ⟨_, h2⟩, _⟩ := h
    rcases h2 with ⟨h2, _⟩ | ⟨g, cap, cur, a, _, c, _⟩
    · rw [h2] at hb; cases hb
    · rw [a] at hb; cases hb; exact key c
  | lit sz e k rows =>
    obtain ⟨_, _, ⟨g, fr, h1, h2⟩, _⟩ := h
    rw [h1] at hb
    cases hb
    exact key h2

/-- From one world to another: what 'pre' names may have changed to what 'post' says; 'nw': new names. -/
structure Step (nw : Nat → Prop) (pre post : Hp) (ρ : Names) (D : Still) (w : World) (ρ' : Names) (D' : Still) (w' : World) : Prop where
  kp : Kp (fun b => ∃ n, pre n ≠ none ∧ blk (ρ n) = some b) w w'
  names : ∀ n, ¬ nw n → ρ' n = ρ n
  le : D.le D'
  fresh : ∀ b, D b = none → D' b ≠ none → (∃ n, pre n ≠ none ∧ blk (ρ n) = some b) ∨ w.heap.size ≤ b
  sat : Sat (fun b => (∃ n, pre n ≠ none ∧ blk (ρ n) = some b) ∨ w.heap.size ≤ b) ρ' D' post w'

/-- A state, seen from a call's beginning. -/
structure St (pre : Hp) (ρ0 : Names) (D0 : Still) (w0 : World) (H : Hp) (ρ : Names) (D : Still) (w : World) : Prop where
  step : Step (fun n => pre n = none) pre H ρ0 D0 w0 ρ D w

def over (H pre post : Hp) : Hp := fun n => match post n with
  | some o => some o
  | none => if (pre n).isSome then none else H n

/-- A step of some blocks in a greater state. -/
theorem St.next {p0 : Hp} {ρ0 : Names} {D0 : Still} {w0 : World} {H pre post : Hp} {ρ ρ' : Names} {D D' : Still} {w w' : World} (s : St p0 ρ0 D0 w0 H ρ D w)
    (hsub : ∀ n, pre n ≠ none → H n ≠ none)
    (hnew : ∀ n, post n ≠ none → pre n = none → H n = none ∧ p0 n = none ∧ ∀ m o, H m = some o → pre m = none → o.uses n = false)
    (t : Step (fun n => post n ≠ none ∧ pre n = none) pre post ρ D w ρ' D' w') : St p0 ρ0 D0 w0 (over H pre post) ρ' D' w' := by
  have hlt : ∀ n b, H n ≠ none → blk (ρ n) = some b → b < w.heap.size := by
    intro n b hn hb
    obtain ⟨o, ho⟩ := Option.ne_none_iff_exists'.1 hn
    exact (s.step.sat.hold n o ho).lt hb
  have hkeep : ∀ n, H n ≠ none → ρ' n = ρ n := fun n hn => t.names n (fun h => hn (hnew n h.1 h.2).1)
  have hmine : ∀ n b, H n ≠ none → blk (ρ n) = some b → (∃ n, p0 n ≠ none ∧ blk (ρ0 n) = some b) ∨ w0.heap.size ≤ b := fun n b hn hb => (s.step.sat.dis n b hn hb).2
  -- frame names
  have hframe : ∀ n, pre n = none → H n ≠ none → post n = none := by
    intro n h1 h2
    apply Classical.byContradiction
    intro h3
    exact h2 (hnew n h3 h1).1
  have hD' : ∀ n b, H n ≠ none → pre n = none → blk (ρ n) = some b → D' b = none := by
    intro n b hn hp hb
    apply Classical.byContradiction
    intro hne
    have h1 := (s.step.sat.dis n b hn hb).1
    have h3 := hlt n b hn hb
    rcases t.fresh b h1 hne with ⟨m, hm1, hm2⟩ | h2
    · exact s.step.sat.inj n m b hn (hsub m hm1) (fun e => hm1 (e ▸ hp)) hb hm2
    · omega
  have hblock : ∀ n b, H n ≠ none → pre n = none → blk (ρ n) = some b → w'.heap[b]? = w.heap[b]? := by
    intro n b hn hp hb
    refine t.kp.block b (hlt n b hn hb) ?_
    rintro ⟨m, hm1, hm2⟩
    exact s.step.sat.inj n m b hn (hsub m hm1) (fun e => hm1 (e ▸ hp)) hb hm2
  refine ⟨⟨?_, ?_, Still.le_trans s.step.le t.le, ?_, ⟨?_, ?_, ?_, t.sat.still, t.sat.glob⟩⟩⟩
  · refine ⟨t.kp.os.trans s.step.kp.os, t.kp.tape.trans s.step.kp.tape, t.kp.output.trans s.step.kp.output, Nat.le_trans s.step.kp.size t.kp.size, fun b hb hn => ?_⟩
    refine (t.kp.block b (Nat.lt_of_lt_of_le hb s.step.kp.size) ?_).trans (s.step.kp.block b hb hn)
    rintro ⟨m, hm1, hm2⟩
    rcases hmine m b (hsub m hm1) hm2 with h | h
    · exact hn h
    · omega
  · intro n hn
    have h0 : p0 n ≠ none := hn
    refine (t.names n ?_).trans (s.step.names n hn)
    rintro ⟨h1, h2⟩
    exact h0 (hnew n h1 h2).2.1
  · intro b h0 h1
    by_cases hb : D b = none
    · rcases t.fresh b hb h1 with ⟨m, hm1, hm2⟩ | h2
      · exact hmine m b (hsub m hm1) hm2
      · exact .inr (Nat.le_trans s.step.kp.size h2)
    · exact s.step.fresh b h0 hb
  · intro n o ho
    unfold over at ho
    cases hp : post n with
    | some o' =>
      rw [hp] at ho
      obtain rfl := Option.some.inj ho
      exact t.sat.hold n o' hp
    | none =>
      rw [hp] at ho
      simp only at ho
      split at ho
      · cases ho
      · rename_i hpre
        have hpre' : pre n = none := by simpa using hpre
        have hn : H n ≠ none := by rw [ho]; simp
        refine Holds.mono t.le (hkeep n hn) (fun m hm => ?_) (fun b hb => hblock n b hn hpre' hb) (s.step.sat.hold n o ho)
        apply t.names
        rintro ⟨h1, h2⟩
        have := (hnew m h1 h2).2.2 n o ho hpre'
        rw [hm] at this
        cases this
  · -- inj
    have cases_ : ∀ n, over H pre post n ≠ none → post n ≠ none ∨ (post n = none ∧ pre n = none ∧ H n ≠ none) := by
      intro n hn
      unfold over at hn
      cases hp : post n with
      | some o => exact .inl (by simp)
      | none =>
        rw [hp] at hn
        simp only at hn
        split at hn
        · exact absurd rfl hn
        · rename_i h; exact .inr ⟨rfl, by simpa using h, hn⟩
    have old : ∀ n b, (post n = none ∧ pre n = none ∧ H n ≠ none) → blk (ρ' n) = some b → ¬ ((∃ m, pre m ≠ none ∧ blk (ρ m) = some b) ∨ w.heap.size ≤ b) := by
      intro n b hn hb h
      rw [hkeep n hn.2.2] at hb
      rcases h with ⟨m, h1, h2⟩ | h
      · exact s.step.sat.inj n m b hn.2.2 (hsub m h1) (fun e => h1 (e ▸ hn.2.1)) hb h2
      · have := hlt n b hn.2.2 hb
        omega
    intro n m b hn hm hne hbn hbm
    rcases cases_ n hn with h1 | h1 <;> rcases cases_ m hm with h2 | h2
    · exact t.sat.inj n m b h1 h2 hne hbn hbm
    · exact old m b h2 hbm (t.sat.dis n b h1 hbn).2
    · exact old n b h1 hbn (t.sat.dis m b h2 hbm).2
    · rw [hkeep n h1.2.2] at hbn
      rw [hkeep m h2.2.2] at hbm
      exact s.step.sat.inj n m b h1.2.2 h2.2.2 hne hbn hbm
  · intro n b hn hb
    unfold over at hn
    cases hp : post n with
    | some o =>
      obtain ⟨h1, h2⟩ := t.sat.dis n b (by rw [hp]; simp) hb
      refine ⟨h1, ?_⟩
      rcases h2 with ⟨m, h3, h4⟩ | h2
      · exact hmine m b (hsub m h3) h4
      · exact .inr (Nat.le_trans s.step.kp.size h2)
    | none =>
      rw [hp] at hn
      simp only at hn
      split at hn
      · exact absurd rfl hn
      · rename_i h
        have h' : pre n = none := by simpa using h
        rw [hkeep n hn] at hb
        exact ⟨hD' n b hn h' hb, hmine n b hn hb⟩
end Go.Proofs.YtahobmjchppciaaDoor.Sx
