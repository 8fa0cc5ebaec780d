/- TermBack, by hand. -/
import Derived.Test.YtkindfbbklkjdaaGj
import Derived.Test.YtkindfbbklkjdaaPx13
import Derived.Test.YtkindfbbklkjdaaPx19
import Derived.Test.YtkindfbbklkjdaaPx23
import Derived.Test.YtkindfbbklkjdaaPureC
namespace Go.Proofs.Ytkindfbbklkjdaa.P
open Go.RowKit Go.Proofs.YtkindfbbklkjdaaW.PrintWords Go.Proofs.YtkindfbbklkjdaaW.PrintLast Go.Proofs.YtkindfbbklkjdaaW.PrintMore
set_option linter.unusedVariables false
set_option linter.unusedSimpArgs false

theorem ArenaAt.own_base {w : World} {base : Nat} {ok : Nat → Prop} {g : Nat} {l : List S32} {m : Int} {v : Value} {bm : Nat} (h : ArenaAt w base ok g l m v bm) : ∀ k, (k = g ∨ k = bm ∨ some k = v.ownBlock) → base ≤ k := fun k e => by
  rcases e with rfl | rfl | e
  · exact h.leg
  · exact h.lem
  · exact Kd.R_base h.row k e.symm
theorem ArenaAt.own_lt {w : World} {base : Nat} {ok : Nat → Prop} {g : Nat} {l : List S32} {m : Int} {v : Value} {bm : Nat} (h : ArenaAt w base ok g l m v bm) : ∀ k, (k = g ∨ k = bm ∨ some k = v.ownBlock) → k < w.heap.size := fun k e => by
  rcases e with rfl | rfl | e
  · exact blk_lt h.blk
  · exact blk_lt h.mp
  · exact Kd.R_lt h.row k e.symm
/-- Two arenas, the second one without nodes, and a row of the call's own: all apart. -/
structure BackSt (w w' : World) (g gb : Nat) (L : List S32) (m : Int) (vb : Value) (bmb : Nat) (A : Option Addr) (c : Nat) (t : List S32) : Prop where
  a : Ar w w' g L m (fun k_ => (k_ = gb ∨ k_ = bmb ∨ some k_ = vb.ownBlock) ∨ some k_ = (.slice A t.length c : Value).ownBlock)
  b : ArenaAt w' w.heap.size (fun k_ => k_ = gb ∨ k_ = bmb ∨ some k_ = vb.ownBlock) gb [] 0 vb bmb
  v : Kd.R k32 32 w' w.heap.size (fun k_ => some k_ = (.slice A t.length c : Value).ownBlock) (.slice A t.length c) t
  h : Below w.heap.size w w'
  d : ∀ k_, some k_ = (.slice A t.length c : Value).ownBlock → ¬ (k_ = gb ∨ k_ = bmb ∨ some k_ = vb.ownBlock)
theorem BackSt.below {w w' w'' : World} {g gb : Nat} {L : List S32} {m : Int} {vb : Value} {bmb : Nat} {A : Option Addr} {c : Nat} {t : List S32} (s : BackSt w w' g gb L m vb bmb A c t) (hb : Below w'.heap.size w' w'') : BackSt w w'' g gb L m vb bmb A c t :=
  ⟨s.a.below hb, s.b.below hb, Kd.R_below s.v hb, below_step s.h hb, s.d⟩
theorem BackSt.start {w w' w'' : World} {g gb : Nat} {L : List S32} {m : Int} {vb : Value} {bmb : Nat} {A : Option Addr} {c : Nat} {t : List S32} (ha : Ar w w' g L m (fun k_ => k_ = gb ∨ k_ = bmb ∨ some k_ = vb.ownBlock)) (hb : ArenaAt w' w.heap.size (fun k_ => k_ = gb ∨ k_ = bmb ∨ some k_ = vb.ownBlock) gb [] 0 vb bmb) (hB : Below w.heap.size w w') (h : Below w'.heap.size w' w'') (hR : Kd.R k32 32 w'' w'.heap.size (fun _ => True) (.slice A t.length c) t) : BackSt w w'' g gb L m vb bmb A c t :=
  ⟨ha.other (Kept.below (Kept.refl _ (fun _ => False)) h) (fun _ h => h.elim) (below_step hB h) (fun k_ e_ => e_.elim .inl (fun e_ => .inr (Kd.R_base hR k_ e_.symm))), hb.below h, Kd.R_tight rfl (Kd.R_lower hR hB.size), below_step hB h, fun k_ e_ hp => by have h1 := Kd.R_base hR k_ e_.symm; have h2 := hb.own_lt k_ hp; omega⟩
theorem BackSt.xlt {w w' : World} {g gb : Nat} {L : List S32} {m : Int} {vb : Value} {bmb : Nat} {A : Option Addr} {c : Nat} {t : List S32} (s : BackSt w w' g gb L m vb bmb A c t) : ∀ k_, ((k_ = gb ∨ k_ = bmb ∨ some k_ = vb.ownBlock) ∨ some k_ = (.slice A t.length c : Value).ownBlock) → k_ < w'.heap.size := fun k_ e_ =>
  e_.elim (s.b.own_lt k_) (fun e_ => Kd.R_lt s.v k_ e_.symm)
theorem BackSt.put {w w' w'' : World} {g gb : Nat} {L : List S32} {m m' : Int} {vb : Value} {bmb : Nat} {A : Option Addr} {c : Nat} {t : List S32} (s : BackSt w w' g gb L m vb bmb A c t) (hA : Ar w w'' g L m' (fun k_ => (k_ = gb ∨ k_ = bmb ∨ some k_ = vb.ownBlock) ∨ some k_ = (.slice A t.length c : Value).ownBlock)) (hB : Below w.heap.size w w'') (hK : Kept w' w'' (Own w w' (fun k_ => (k_ = gb ∨ k_ = bmb ∨ some k_ = vb.ownBlock) ∨ some k_ = (.slice A t.length c : Value).ownBlock))) : BackSt w w'' g gb L m' vb bmb A c t :=
  ⟨hA, s.b.kept hK (fun k_ hP hs => hs.2.2 (.inl hP)), Kd.R_kept s.v hK (fun k_ e_ hs => hs.2.2 (.inr e_)), hB, s.d⟩
theorem BackSt.other {w w' : World} {g gb : Nat} {L : List S32} {m : Int} {vb : Value} {bmb : Nat} {A : Option Addr} {c : Nat} {t : List S32} (s : BackSt w w' g gb L m vb bmb A c t) : Ar w w' gb [] 0 (fun k_ => k_ < w'.heap.size ∧ ¬ (k_ = gb ∨ k_ = bmb ∨ some k_ = vb.ownBlock)) :=
  Ar.tight (base := 0) s.b s.h (fun k_ hP _ hx => hx.2 hP)
theorem BackSt.other_lt {w w' : World} {g gb : Nat} {L : List S32} {m : Int} {vb : Value} {bmb : Nat} {A : Option Addr} {c : Nat} {t : List S32} (s : BackSt w w' g gb L m vb bmb A c t) : ∀ k_, (k_ < w'.heap.size ∧ ¬ (k_ = gb ∨ k_ = bmb ∨ some k_ = vb.ownBlock)) → k_ < w'.heap.size := fun k_ e_ => e_.1
theorem BackSt.last {w w' w'' : World} {g gb : Nat} {L : List S32} {m : Int} {vb : Value} {bmb : Nat} {A : Option Addr} {c : Nat} {t : List S32} (s : BackSt w w' g gb L m vb bmb A c t) (hB : Below w.heap.size w w'') (hK : Kept w' w'' (Own w w' (fun k_ => k_ < w'.heap.size ∧ ¬ (k_ = gb ∨ k_ = bmb ∨ some k_ = vb.ownBlock)))) :
    Ar w w'' g L m (fun k_ => (k_ = gb ∨ k_ = bmb ∨ some k_ = vb.ownBlock) ∨ some k_ = (.slice A t.length c : Value).ownBlock) ∧ Kd.R k32 32 w'' w.heap.size (fun k_ => some k_ = (.slice A t.length c : Value).ownBlock) (.slice A t.length c) t ∧ Below w.heap.size w w'' :=
  ⟨s.a.other hK (fun k_ hs => .inl (Classical.byContradiction fun hn => hs.2.2 ⟨hs.2.1, hn⟩)) hB (fun k_ e_ => .inl e_), Kd.R_kept s.v hK (fun k_ e_ hs => hs.2.2 ⟨Kd.R_lt s.v k_ e_.symm, s.d k_ e_⟩), hB⟩
/-- A kid's place, from the j-th kid on. -/
def kidFrom (j : Int) (n : S32) (c : Int) : Prop := (j ≤ 0 ∧ 0 < Pure.kidsN n.f0 ∧ n.f3.f0 = c) ∨ (j ≤ 1 ∧ 1 < Pure.kidsN n.f0 ∧ n.f3.f1 = c) ∨ (j ≤ 2 ∧ 2 < Pure.kidsN n.f0 ∧ n.f3.f2 = c)
theorem ne_fields {a n : S32} (h : a ≠ n) : (a.f0 == n.f0 && (a.f1 == n.f1 && (a.f2 == n.f2 && (a.f3.f0 == n.f3.f0 && (a.f3.f1 == n.f3.f1 && (a.f3.f2 == n.f3.f2)))))) = false := by
  rw [Bool.eq_false_iff]
  exact fun e => h (Pure.eq_of_fields e)
theorem kid_start {u : Bool} {t : List S32} {k1 i : Int} (h : u = true ∨ ∃ k : Int, k1 ≤ k ∧ k < t.length ∧ Pure.isKid (rd_T32 t k) i) : u = true ∨ (∃ k : Int, k1 + 1 ≤ k ∧ k < t.length ∧ Pure.isKid (rd_T32 t k) i) ∨ kidFrom 0 (rd_T32 t k1) i := by
  rcases h with h | ⟨k, a, b, c⟩
  · exact .inl h
  · by_cases e : k = k1
    · subst e
      refine .inr (.inr ?_)
      rcases c with ⟨x, y⟩ | ⟨x, y⟩ | ⟨x, y⟩
      · exact .inl ⟨by omega, x, y⟩
      · exact .inr (.inl ⟨by omega, x, y⟩)
      · exact .inr (.inr ⟨by omega, x, y⟩)
    · exact .inr (.inl ⟨k, by omega, b, c⟩)
theorem kid_end {u : Bool} {E : Prop} {n : S32} {j i : Int} (h : u = true ∨ E ∨ kidFrom j n i) (hj : j = Pure.kidsN n.f0) : u = true ∨ E := by
  rcases h with h | h | h
  · exact .inl h
  · exact .inr h
  · unfold kidFrom at h
    omega
theorem kid_next {u u' : Bool} {E : Prop} {n : S32} {j i f : Int} (h : u = true ∨ E ∨ kidFrom j n i) (hu : u = true → u' = true) (hf : f = i → u' = true) (hj : (j = 0 ∧ f = n.f3.f0) ∨ (j = 1 ∧ f = n.f3.f1) ∨ (j = 2 ∧ f = n.f3.f2)) : u' = true ∨ E ∨ kidFrom (j + 1) n i := by
  rcases h with h | h | h
  · exact .inl (hu h)
  · exact .inr (.inl h)
  · by_cases e : f = i
    · exact .inl (hf e)
    · refine .inr (.inr ?_)
      unfold kidFrom at h ⊢
      rcases hj with ⟨rfl, rfl⟩ | ⟨rfl, rfl⟩ | ⟨rfl, rfl⟩ <;> omega
def fitB (l : List S32) : Bool := l.all okN
def backreachlaw06_TermBack.f (k : Nat) (l0 : List S32) : Option Bool := if fitB l0 then some true else none
attribute [local go_sem high] eqA32

set_option maxHeartbeats 8000000 in
set_option maxRecDepth 100000 in
theorem back_none (A0 : Option Addr) (c0 : Nat) (l0 : List S32) (w : World) (hr0 : Kd.C k32 w A0 l0.length l0) (hc0 : l0.length ≤ c0) (hs : (l0.length : Int) ≤ 300) (e1 i1 at1 : Int) (hf : ∀ a ∈ l0, okN a = true) (k1 k2 : Nat) (m1 : Int) (p1 : term_Arena_Put.f k1 [] 0 l0 = some ([], m1, i1, e1)) (p2 : term_Check.f k2 l0 = some (e1, at1)) (d1 : ¬ e1 = 0) :
    Calls Try.prog 7 #[.slice A0 l0.length c0] w fun e w' => e = .returned (.bool true) ∧ Below w.heap.size w w' := by
  have hu32 := Try.underlying32
  have d1b : (e1 != 0) = true := bne_iff_ne.mpr d1
  have HP1 := Aside0.mk p1
  have HC1 := Aside0.mk p2
  have HR0 := Aside0.mk hr0
  have HB := Aside0.mk (Below.refl w.heap.size w)
  have s0b : decide (300 < (l0.length : Int)) = false := decide_eq_false (by omega)
  have s0c : decide (300 < l0.length) = false := decide_eq_false (by omega)
  clear hr0 hs hf p1 p2 d1
  go_enter Try.func7, Try.ntmps7
  go_wp2_with (go_at_call 9; refine (backreachlaw06_awake.calls true _ rfl).mono ?_; rintro e wa ⟨rfl, hb⟩; have n0 := Aside0.mk (below_step HB.out hb); clear HB hb; have HB := n0; clear n0)
  go_at_call 10
  have q := Ar.new w _ HB.out (fun k_ => False) (fun k_ e_ => e_.elim)
  refine q.mono ?_
  clear q
  rintro e wn ⟨g, rfl, hA, hb⟩
  have n0 := Aside0.mk (below_step HB.out hb)
  have HA := Aside0.mk hA
  clear HB hb hA
  have HB := n0
  clear n0
  go_wp2_with (fail)
  go_at_call 10
  have q := term_New.calls_at wn
  refine q.mono ?_
  clear q
  rintro e wm ⟨gb, vb, bmb, rfl, hA2, hb⟩
  have n0 := Aside0.mk (below_step HB.out hb)
  have n1 := Aside0.mk (Ar.other (X' := fun k_ => k_ = gb ∨ k_ = bmb ∨ some k_ = (vb : Value).ownBlock) HA.out (Kept.below (Kept.refl _ (fun _ => False)) hb) (fun _ h => h.elim) n0.out (fun k_ e_ => .inr (hA2.own_base k_ e_)))
  have n2 := Aside0.mk ((hA2.lower HB.out.size).tight)
  clear HA HB hb hA2
  have HB := n0
  have HA := n1
  have HBA := n2
  clear n0 n1 n2
  go_wp2_with (fail)
  go_at_call 23
  have q := Ar.put (l := l0) HA.out HBA.out.own_lt (fun W hW => C_keeps HR0.out HB.out hW (fun k h => h.1)) hc0 HP1.out
  refine q.mono ?_
  clear q
  rintro e w5 ⟨rfl, hA, hB, hK⟩
  have n1 := Aside0.mk (HBA.out.kept hK (fun k_ e_ hs => hs.2.2 e_))
  clear HA HB HBA
  have HA := Aside0.mk hA
  have HB := Aside0.mk hB
  have HBA := n1
  clear hA hB hK n1
  go_wp2_with (fail)
  go_at_call 19
  have q := term_Check.calls _ A0 c0 l0 _ _ w5 (Kd.C_below HR0.out HB.out) hc0 HC1.out
  refine q.mono ?_
  clear q
  rintro e w6 ⟨rfl, hb⟩
  have n0 := Aside0.mk (HA.out.below hb)
  have n1 := Aside0.mk (HBA.out.below hb)
  have n2 := Aside0.mk (below_step HB.out hb)
  clear HA HB HBA hb
  have HA := n0
  have HBA := n1
  have HB := n2
  clear n0 n1 n2
  go_wp2_with (fail)
  go_at_call 13
  have q := Ar.len HA.out
  refine q.mono ?_
  clear q
  rintro e wd ⟨rfl, hD⟩
  have n2 := Aside0.mk (below_step HB.out hD.below)
  clear HB HA HBA hD
  have HB := n2
  clear n2
  go_wp2
  go_ret
  exact ⟨rfl, HB.out⟩

set_option maxHeartbeats 16000000 in
set_option maxRecDepth 100000 in
theorem back_some (A0 : Option Addr) (c0 : Nat) (l0 : List S32) (w : World) (hr0 : Kd.C k32 w A0 l0.length l0) (hc0 : l0.length ≤ c0) (hs : (l0.length : Int) ≤ 300) (i0 at1 : Int) (L1 t1 : List S32) (k1 k2 k3 k4 k5 k6 k7 k8 : Nat) (m1 m2 m3 : Int)
    (p1 : term_Arena_Put.f k1 [] 0 l0 = some (L1, m1, i0, 0)) (p2 : term_Check.f k2 l0 = some (0, at1)) (p3 : term_Arena_Term.f k3 L1 i0 = some t1) (p4 : term_Check.f k4 t1 = some (0, 0)) (ht : t1.length ≤ l0.length) (hz : 0 < t1.length)
    (hd : ∀ i k : Int, 0 ≤ i → i < k → k < t1.length → rd_T32 t1 k ≠ rd_T32 t1 i) (hu : ∀ i : Int, 0 ≤ i → i < (t1.length : Int) - 1 → ∃ k : Int, i + 1 ≤ k ∧ k < t1.length ∧ Pure.isKid (rd_T32 t1 k) i) (hkid : ∀ op : Int, ∃ k, backreachref06_Kids.f k op = some (Pure.kidsN op))
    (p5 : term_Arena_Put.f k5 L1 m1 t1 = some (L1, m2, i0, 0)) (p6 : term_Arena_Put.f k6 [] 0 t1 = some (t1, m3, (t1.length : Int) - 1, 0)) (p7 : term_Arena_Term.f k7 t1 ((t1.length : Int) - 1) = some t1) (p8 : backreachref06_Same.f k8 t1 t1 = some true) :
    Calls Try.prog 7 #[.slice A0 l0.length c0] w fun e w' => e = .returned (.bool true) ∧ Below w.heap.size w w' := by
  have hu32 := Try.underlying32
  have HP1 := Aside0.mk p1
  have HC1 := Aside0.mk p2
  have HT1 := Aside0.mk p3
  have HC2 := Aside0.mk p4
  have HP2 := Aside0.mk p5
  have HP3 := Aside0.mk p6
  have HT2 := Aside0.mk p7
  have HE := Aside0.mk p8
  have HDD := Aside0.mk hd
  have HUU := Aside0.mk hu
  have HKK := Aside0.mk hkid
  have HR0 := Aside0.mk hr0
  have HB := Aside0.mk (Below.refl w.heap.size w)
  have s0b : decide (300 < (l0.length : Int)) = false := decide_eq_false (by omega)
  have s0c : decide (300 < l0.length) = false := decide_eq_false (by omega)
  have s1b : decide ((l0.length : Int) < (t1.length : Int)) = false := decide_eq_false (by omega)
  have s1c : decide (l0.length < t1.length) = false := decide_eq_false (by omega)
  have HZ := Aside0.mk (show (0 : Int) < (t1.length : Int) by omega)
  have HS3 := Aside0.mk (show (t1.length : Int) ≤ 300 by omega)
  clear hr0 hs p1 p2 p3 p4 p5 p6 p7 p8 ht hz hd hu hkid
  go_enter Try.func7, Try.ntmps7
  go_wp2_with (go_at_call 9; refine (backreachlaw06_awake.calls true _ rfl).mono ?_; rintro e wa ⟨rfl, hb⟩; have n0 := Aside0.mk (below_step HB.out hb); clear HB hb; have HB := n0; clear n0)
  go_at_call 10
  have q := Ar.new w _ HB.out (fun k_ => False) (fun k_ e_ => e_.elim)
  refine q.mono ?_
  clear q
  rintro e wn ⟨g, rfl, hA, hb⟩
  have n0 := Aside0.mk (below_step HB.out hb)
  have HA := Aside0.mk hA
  clear HB hb hA
  have HB := n0
  clear n0
  go_wp2_with (fail)
  go_at_call 10
  have q := term_New.calls_at wn
  refine q.mono ?_
  clear q
  rintro e wm ⟨gb, vb, bmb, rfl, hA2, hb⟩
  have n0 := Aside0.mk (below_step HB.out hb)
  have n1 := Aside0.mk (Ar.other (X' := fun k_ => k_ = gb ∨ k_ = bmb ∨ some k_ = (vb : Value).ownBlock) HA.out (Kept.below (Kept.refl _ (fun _ => False)) hb) (fun _ h => h.elim) n0.out (fun k_ e_ => .inr (hA2.own_base k_ e_)))
  have n2 := Aside0.mk ((hA2.lower HB.out.size).tight)
  clear HA HB hb hA2
  have HB := n0
  have HA := n1
  have HBA := n2
  clear n0 n1 n2
  go_wp2_with (fail)
  go_at_call 23
  have q := Ar.put (l := l0) HA.out HBA.out.own_lt (fun W hW => C_keeps HR0.out HB.out hW (fun k h => h.1)) hc0 HP1.out
  refine q.mono ?_
  clear q
  rintro e w5 ⟨rfl, hA, hB, hK⟩
  have n1 := Aside0.mk (HBA.out.kept hK (fun k_ e_ hs => hs.2.2 e_))
  clear HA HB HBA
  have HA := Aside0.mk hA
  have HB := Aside0.mk hB
  have HBA := n1
  clear hA hB hK n1
  go_wp2_with (fail)
  go_at_call 19
  have q := term_Check.calls _ A0 c0 l0 _ _ w5 (Kd.C_below HR0.out HB.out) hc0 HC1.out
  refine q.mono ?_
  clear q
  rintro e w6 ⟨rfl, hb⟩
  have n0 := Aside0.mk (HA.out.below hb)
  have n1 := Aside0.mk (HBA.out.below hb)
  have n2 := Aside0.mk (below_step HB.out hb)
  clear HA HB HBA hb
  have HA := n0
  have HBA := n1
  have HB := n2
  clear n0 n1 n2
  go_wp2_with (fail)
  go_at_call 17
  have q := Ar.term HA.out HT1.out
  refine q.mono ?_
  clear q
  rintro e wt ⟨vt, rfl, hb, hR⟩
  (obtain ⟨At, ct, et⟩ := Kd.R_slice hR)
  subst et
  have HS := Aside0.mk (BackSt.start HA.out HBA.out HB.out hb hR)
  clear HA HB HBA hb hR
  (obtain ⟨ad, ea, _⟩ := at_T32 (Kd.R_reads' HS.out.v).2.2 0 (by omega) HZ.out)
  cases ea
  go_wp2_with (fail)
  go_at_call 19
  have q := term_Check.calls _ (some ad) ct t1 _ _ wt (Kd.R_reads' HS.out.v).2.2 (Kd.R_reads' HS.out.v).2.1 HC2.out
  refine q.mono ?_
  clear q
  rintro e w7 ⟨rfl, hb⟩
  have n0 := Aside0.mk (HS.out.below hb)
  clear HS hb
  have HS := n0
  clear n0
  go_wp2
  have HWL := Aside0.mk (show wrap64 ((t1.length : Int) - 1) = (t1.length : Int) - 1 by have := HZ.out; have := HS3.out; unfold wrap64; omega)
  go_loopw [12] (fun v12 w' => ∃ (i1 : Int), v12 = .int .i64 i1 ∧ Aside0 (0 ≤ i1 ∧ i1 ≤ t1.length) ∧ Aside0 (BackSt w w' g gb L1 m1 vb bmb (some ad) ct t1)) (fun v12 _ => ((t1.length : Int) - intOf v12).toNat)
  case atStart => exact ⟨0, rfl, ⟨by omega, by omega⟩, HS⟩
  case round =>
    clear HS
    obtain ⟨i1, rfl, HI, HS⟩ := hrel
    by_cases c1 : i1 < (t1.length : Int)
    · have c1b : decide (i1 < (t1.length : Int)) = true := decide_eq_true c1
      have HW1 := Aside0.mk (show wrap64 (i1 + 1) = i1 + 1 by have := HI.out.1; have := HS3.out; unfold wrap64; omega)
      have HC1_ := Aside0.mk c1
      have HU := Aside0.mk (show (i1 == (t1.length : Int) - 1) = true ∨ ∃ k : Int, i1 + 1 ≤ k ∧ k < t1.length ∧ Pure.isKid (rd_T32 t1 k) i1 by
        by_cases e : i1 = (t1.length : Int) - 1
        · exact .inl (beq_iff_eq.mpr e)
        · exact .inr (HUU.out i1 HI.out.1 (by omega)))
      clear c1
      go_wp2
      obtain ⟨wo, hwo⟩ : ∃ W : World, W = wr := ⟨_, rfl⟩
      go_loopw [13, 14] (fun v13 v14 w' => ∃ (k1 : Int) (u : Bool), v14 = .int .i64 k1 ∧ v13 = .bool u ∧ Aside0 (i1 + 1 ≤ k1 ∧ k1 ≤ t1.length) ∧ Aside0 (u = true ∨ ∃ k : Int, k1 ≤ k ∧ k < t1.length ∧ Pure.isKid (rd_T32 t1 k) i1) ∧ Aside0 (BackSt w w' g gb L1 m1 vb bmb (some ad) ct t1)) (fun _ v14 _ => ((t1.length : Int) - intOf v14).toNat)
      case atStart => exact ⟨i1 + 1, _, (by rw [HW1.out]), rfl, ⟨by have := HC1_.out; omega⟩, (by rw [HWL.out]; exact HU), HS⟩
      case round =>
        clear HS HU hwo
        obtain ⟨k1, u, rfl, rfl, HK1, HU, HS⟩ := hrel
        by_cases c2 : k1 < (t1.length : Int)
        · have c2b : decide (k1 < (t1.length : Int)) = true := decide_eq_true c2
          have hk0 : 0 ≤ k1 := by have := HK1.out.1; have := HI.out.1; omega
          have p0 := eq_true hk0
          have p1 := eq_true c2
          have q0 := eq_true HI.out.1
          have q1 := eq_true HC1_.out
          have HWK := Aside0.mk (show wrap64 (k1 + 1) = k1 + 1 by have := HS3.out; unfold wrap64; omega)
          have hne := ne_fields (HDD.out i1 k1 HI.out.1 (by have := HK1.out.1; omega) c2)
          have HC2_ := Aside0.mk c2
          clear c2 hk0
          (obtain ⟨adx, ex, hx0, hx1, hx2, hx3, hx4, hx5⟩ := at_T32 (Kd.R_reads' HS.out.v).2.2 k1 (of_eq_true p0) (of_eq_true p1))
          cases ex
          (obtain ⟨ady, ey, hy0, hy1, hy2, hy3, hy4, hy5⟩ := at_T32 (Kd.R_reads' HS.out.v).2.2 i1 (of_eq_true q0) (of_eq_true q1))
          cases ey
          go_wp2
          go_quiet (fail)
          go_wp2
          clear hx0 hx1 hx2 hx3 hx4 hx5 hy0 hy1 hy2 hy3 hy4 hy5 hne
          go_loopw [13, 15] (fun v13 v15 w' => ∃ (j1 : Int) (u : Bool), v15 = .int .i64 j1 ∧ v13 = .bool u ∧ Aside0 (0 ≤ j1 ∧ j1 ≤ Pure.kidsN (rd_T32 t1 k1).f0) ∧ Aside0 (u = true ∨ (∃ k : Int, k1 + 1 ≤ k ∧ k < t1.length ∧ Pure.isKid (rd_T32 t1 k) i1) ∨ kidFrom j1 (rd_T32 t1 k1) i1) ∧ Aside0 (BackSt w w' g gb L1 m1 vb bmb (some ad) ct t1)) (fun _ v15 _ => (Pure.kidsN (rd_T32 t1 k1).f0 - intOf v15).toNat)
          case atStart => exact ⟨0, u, rfl, rfl, ⟨Int.le_refl _, (Pure.kidsN_range _).1⟩, ⟨kid_start HU.out⟩, ⟨HS.out.below (by first | exact Below.refl _ _ | exact pw_below_drewN (Below.refl _ _) _ | exact below_drew1 (Below.refl _ _))⟩⟩
          case round =>
            clear HS HU
            obtain ⟨j1, u, rfl, rfl, HJ, HU, HS⟩ := hrel
            obtain ⟨kk, hkk⟩ := HKK.out (rd_T32 t1 k1).f0
            have HKD := Aside0.mk hkk
            clear hkk
            (obtain ⟨adz, ez, hz0, hz1, hz2, hz3, hz4, hz5⟩ := at_T32 (Kd.R_reads' HS.out.v).2.2 k1 (of_eq_true p0) (of_eq_true p1))
            cases ez
            by_cases c3 : j1 < Pure.kidsN (rd_T32 t1 k1).f0
            · have hr := Pure.kidsN_range (rd_T32 t1 k1).f0
              have hj : j1 = 0 ∨ j1 = 1 ∨ j1 = 2 := by have := HJ.out.1; omega
              have HC3 := Aside0.mk c3
              have HR3 := Aside0.mk hr
              have c3b : decide (j1 < Pure.kidsN (rd_T32 t1 k1).f0) = true := decide_eq_true c3
              clear c3 hr HJ
              rcases hj with rfl | rfl | rfl
              · cases u with
                | true =>
                  go_wp2_with (fail)
                  go_at_call 22
                  (with_reducible refine (backreachref06_Kids.calls _ (rd_T32 t1 k1).f0 _ _ HKD.out).mono ?_)
                  rintro e wk ⟨rfl, hD⟩
                  have n0 := Aside0.mk (HS.out.below hD.below)
                  clear HS hD
                  have HS := n0
                  clear n0
                  clear hz0 hz1 hz2 hz3 hz4 hz5
                  (obtain ⟨adz, ez, hz0, hz1, hz2, hz3, hz4, hz5⟩ := at_T32 (Kd.R_reads' HS.out.v).2.2 k1 (of_eq_true p0) (of_eq_true p1))
                  cases ez
                  go_wp2
                  go_roundw
                  case rel => exact ⟨1, true, rfl, rfl, ⟨by have := HC3.out; omega⟩, ⟨.inl rfl⟩, HS⟩
                  case measure =>
                    have := HC3.out
                    simp [intOf]
                    omega
                | false =>
                  go_wp2_with (fail)
                  go_at_call 22
                  (with_reducible refine (backreachref06_Kids.calls _ (rd_T32 t1 k1).f0 _ _ HKD.out).mono ?_)
                  rintro e wk ⟨rfl, hD⟩
                  have n0 := Aside0.mk (HS.out.below hD.below)
                  clear HS hD
                  have HS := n0
                  clear n0
                  clear hz0 hz1 hz2 hz3 hz4 hz5
                  (obtain ⟨adz, ez, hz0, hz1, hz2, hz3, hz4, hz5⟩ := at_T32 (Kd.R_reads' HS.out.v).2.2 k1 (of_eq_true p0) (of_eq_true p1))
                  cases ez
                  go_wp2
                  go_roundw
                  case rel => exact ⟨1, ((rd_T32 t1 k1).f3.f0 == i1), rfl, rfl, ⟨by have := HC3.out; omega⟩, ⟨kid_next (j := 0) (f := (rd_T32 t1 k1).f3.f0) HU.out (fun h => by cases h) (fun h => beq_iff_eq.mpr h) (by omega)⟩, HS⟩
                  case measure =>
                    have := HC3.out
                    simp [intOf]
                    omega
              · cases u with
                | true =>
                  go_wp2_with (fail)
                  go_at_call 22
                  (with_reducible refine (backreachref06_Kids.calls _ (rd_T32 t1 k1).f0 _ _ HKD.out).mono ?_)
                  rintro e wk ⟨rfl, hD⟩
                  have n0 := Aside0.mk (HS.out.below hD.below)
                  clear HS hD
                  have HS := n0
                  clear n0
                  clear hz0 hz1 hz2 hz3 hz4 hz5
                  (obtain ⟨adz, ez, hz0, hz1, hz2, hz3, hz4, hz5⟩ := at_T32 (Kd.R_reads' HS.out.v).2.2 k1 (of_eq_true p0) (of_eq_true p1))
                  cases ez
                  go_wp2
                  go_roundw
                  case rel => exact ⟨2, true, rfl, rfl, ⟨by have := HC3.out; omega⟩, ⟨.inl rfl⟩, HS⟩
                  case measure =>
                    have := HC3.out
                    simp [intOf]
                    omega
                | false =>
                  go_wp2_with (fail)
                  go_at_call 22
                  (with_reducible refine (backreachref06_Kids.calls _ (rd_T32 t1 k1).f0 _ _ HKD.out).mono ?_)
                  rintro e wk ⟨rfl, hD⟩
                  have n0 := Aside0.mk (HS.out.below hD.below)
                  clear HS hD
                  have HS := n0
                  clear n0
                  clear hz0 hz1 hz2 hz3 hz4 hz5
                  (obtain ⟨adz, ez, hz0, hz1, hz2, hz3, hz4, hz5⟩ := at_T32 (Kd.R_reads' HS.out.v).2.2 k1 (of_eq_true p0) (of_eq_true p1))
                  cases ez
                  go_wp2
                  go_roundw
                  case rel => exact ⟨2, ((rd_T32 t1 k1).f3.f1 == i1), rfl, rfl, ⟨by have := HC3.out; omega⟩, ⟨kid_next (j := 1) (f := (rd_T32 t1 k1).f3.f1) HU.out (fun h => by cases h) (fun h => beq_iff_eq.mpr h) (by omega)⟩, HS⟩
                  case measure =>
                    have := HC3.out
                    simp [intOf]
                    omega
              · cases u with
                | true =>
                  go_wp2_with (fail)
                  go_at_call 22
                  (with_reducible refine (backreachref06_Kids.calls _ (rd_T32 t1 k1).f0 _ _ HKD.out).mono ?_)
                  rintro e wk ⟨rfl, hD⟩
                  have n0 := Aside0.mk (HS.out.below hD.below)
                  clear HS hD
                  have HS := n0
                  clear n0
                  clear hz0 hz1 hz2 hz3 hz4 hz5
                  (obtain ⟨adz, ez, hz0, hz1, hz2, hz3, hz4, hz5⟩ := at_T32 (Kd.R_reads' HS.out.v).2.2 k1 (of_eq_true p0) (of_eq_true p1))
                  cases ez
                  go_wp2
                  go_roundw
                  case rel => exact ⟨3, true, rfl, rfl, ⟨by have := HC3.out; omega⟩, ⟨.inl rfl⟩, HS⟩
                  case measure =>
                    have := HC3.out
                    simp [intOf]
                    omega
                | false =>
                  go_wp2_with (fail)
                  go_at_call 22
                  (with_reducible refine (backreachref06_Kids.calls _ (rd_T32 t1 k1).f0 _ _ HKD.out).mono ?_)
                  rintro e wk ⟨rfl, hD⟩
                  have n0 := Aside0.mk (HS.out.below hD.below)
                  clear HS hD
                  have HS := n0
                  clear n0
                  clear hz0 hz1 hz2 hz3 hz4 hz5
                  (obtain ⟨adz, ez, hz0, hz1, hz2, hz3, hz4, hz5⟩ := at_T32 (Kd.R_reads' HS.out.v).2.2 k1 (of_eq_true p0) (of_eq_true p1))
                  cases ez
                  go_wp2
                  go_roundw
                  case rel => exact ⟨3, ((rd_T32 t1 k1).f3.f2 == i1), rfl, rfl, ⟨by have := HC3.out; omega⟩, ⟨kid_next (j := 2) (f := (rd_T32 t1 k1).f3.f2) HU.out (fun h => by cases h) (fun h => beq_iff_eq.mpr h) (by omega)⟩, HS⟩
                  case measure =>
                    have := HC3.out
                    simp [intOf]
                    omega
            · have c3b : decide (j1 < Pure.kidsN (rd_T32 t1 k1).f0) = false := decide_eq_false c3
              have HU' := Aside0.mk (kid_end HU.out (by have := HJ.out.2; omega))
              clear HU HJ c3
              go_wp2_with (fail)
              go_at_call 22
              (with_reducible refine (backreachref06_Kids.calls _ (rd_T32 t1 k1).f0 _ _ HKD.out).mono ?_)
              rintro e wk ⟨rfl, hD⟩
              have n0 := Aside0.mk (HS.out.below hD.below)
              clear HS hD
              have HS := n0
              clear n0
              go_wp2
              refine ⟨⟨k1 + 1, u, (by rw [HWK.out]), rfl, ⟨by have := HK1.out; have := HC2_.out; omega⟩, HU', HS⟩, ?_⟩
              have := HC2_.out
              rw [HWK.out]
              show ((t1.length : Int) - (k1 + 1)).toNat < ((t1.length : Int) - k1).toNat
              omega
        · have c2b : decide (k1 < (t1.length : Int)) = false := decide_eq_false c2
          obtain rfl : u = true := HU.out.elim id (fun ⟨k, a, b, _⟩ => absurd b (by omega))
          clear c2 HU
          go_wp2
          refine ⟨⟨i1 + 1, (by rw [HW1.out]), ⟨by have := HI.out; have := HC1_.out; omega⟩, HS⟩, ?_⟩
          have := HC1_.out
          rw [HW1.out]
          show ((t1.length : Int) - (i1 + 1)).toNat < ((t1.length : Int) - i1).toNat
          omega
    · have c1b : decide (i1 < (t1.length : Int)) = false := decide_eq_false c1
      have hwl := HWL.out
      clear c1 HI
      go_wp2_with (fail)
      go_at_call 13
      have q := Ar.len HS.out.a
      refine q.mono ?_
      clear q
      rintro e wd ⟨rfl, hD⟩
      have n0 := Aside0.mk (HS.out.below hD.below)
      clear HS hD
      have HS := n0
      clear n0
      go_wp2_with (fail)
      go_at_call 23
      have q := Ar.put (l := t1) HS.out.a HS.out.xlt (fun W hW => (Kd.R_reads' (Kd.R_kept HS.out.v hW (fun k_ e_ hs => hs.2.2 (.inr e_)))).2.2) (Kd.R_reads' HS.out.v).2.1 HP2.out
      refine q.mono ?_
      clear q
      rintro e w8 ⟨rfl, hA, hB, hK⟩
      have n0 := Aside0.mk (HS.out.put hA hB hK)
      clear HS hA hB hK
      have HS := n0
      clear n0
      go_wp2_with (fail)
      go_at_call 23
      have q := Ar.put (l := t1) HS.out.other HS.out.other_lt (fun W hW => (Kd.R_reads' (Kd.R_kept HS.out.v hW (fun k_ e_ hs => hs.2.2 ⟨Kd.R_lt HS.out.v k_ e_.symm, HS.out.d k_ e_⟩))).2.2) (Kd.R_reads' HS.out.v).2.1 HP3.out
      refine q.mono ?_
      clear q
      rintro e w9 ⟨rfl, hA, hB, hK⟩
      have n0 := Aside0.mk (HS.out.last hB hK)
      have HA2 := Aside0.mk hA
      clear HS hA hB hK
      have HA := Aside0.mk n0.out.1
      have HV := Aside0.mk n0.out.2.1
      have HB := Aside0.mk n0.out.2.2
      clear n0
      go_wp2_with (fail)
      go_at_call 13
      have q := Ar.len HA.out
      refine q.mono ?_
      clear q
      rintro e we ⟨rfl, hD⟩
      have hb := hD.below
      clear hD
      have n0 := Aside0.mk (HA.out.below hb)
      have n1 := Aside0.mk (HA2.out.below hb)
      have n2 := Aside0.mk (Kd.R_below HV.out hb)
      have n3 := Aside0.mk (below_step HB.out hb)
      clear HA HA2 HV HB
      have HA := n0
      have HA2 := n1
      have HV := n2
      have HB := n3
      clear n0 n1 n2 n3
      clear hb
      go_wp2_with (fail)
      go_at_call 13
      have q := Ar.len HA2.out
      refine q.mono ?_
      clear q
      rintro e wf ⟨rfl, hD⟩
      have hb := hD.below
      clear hD
      have n0 := Aside0.mk (HA.out.below hb)
      have n1 := Aside0.mk (HA2.out.below hb)
      have n2 := Aside0.mk (Kd.R_below HV.out hb)
      have n3 := Aside0.mk (below_step HB.out hb)
      clear HA HA2 HV HB
      have HA := n0
      have HA2 := n1
      have HV := n2
      have HB := n3
      clear n0 n1 n2 n3
      clear hb
      go_wp2_with (fail)
      go_at_call 17
      have q := Ar.term HA2.out HT2.out
      refine q.mono ?_
      clear q
      rintro e wu ⟨vu, rfl, hb, hR⟩
      (obtain ⟨Au, cu, eu⟩ := Kd.R_slice hR)
      subst eu
      have n0 := Aside0.mk (HA.out.below hb)
      have n1 := Aside0.mk (HA2.out.below hb)
      have n2 := Aside0.mk (Kd.R_below HV.out hb)
      have n3 := Aside0.mk (below_step HB.out hb)
      clear HA HA2 HV HB
      have HA := n0
      have HA2 := n1
      have HV := n2
      have HB := n3
      clear n0 n1 n2 n3
      have HV2 := Aside0.mk hR
      clear hR
      clear hb
      go_wp2_with (fail)
      go_at_call 16
      have q := backreachref06_Same.calls _ _ _ t1 _ _ t1 true _ (Kd.R_reads' HV2.out).2.2 (Kd.R_reads' HV2.out).2.1 (Kd.R_reads' HV.out).2.2 (Kd.R_reads' HV.out).2.1 HE.out
      refine q.mono ?_
      clear q
      rintro e ws ⟨rfl, hd⟩
      have n3 := Aside0.mk (below_step HB.out hd.below)
      clear HB hd
      have HB := n3
      clear n3
      go_wp2
      go_ret
      exact ⟨rfl, HB.out⟩

end Go.Proofs.Ytkindfbbklkjdaa.P
