/- TermPuts, by hand. -/
import Derived.Test.YtkindfbbklkjdaaGj
import Derived.Test.YtkindfbbklkjdaaPx28
import Derived.Test.YtkindfbbklkjdaaPx21
import Derived.Test.YtkindfbbklkjdaaPx19
import Derived.Test.YtkindfbbklkjdaaPureT
namespace Go.Proofs.Ytkindfbbklkjdaa.P
open Go.RowKit Go.Proofs.YtkindfbbklkjdaaW.PrintWords Go.Proofs.YtkindfbbklkjdaaW.PrintLast Go.Proofs.YtkindfbbklkjdaaW.PrintMore
set_option linter.unusedVariables false
set_option linter.unusedSimpArgs false

def fitAll (l : List S32) : Bool := l.all okN
def backreachlaw06_TermPuts.f (k : Nat) (l0 l1 : List S32) : Option Bool := if fitAll l0 && fitAll l1 then some true else none
set_option maxHeartbeats 8000000 in
set_option maxRecDepth 100000 in
theorem backreachlaw06_TermPuts.calls (k : Nat) (A0 : Option Addr) (c0 : Nat) (l0 : List (S32)) (A1 : Option Addr) (c1 : Nat) (l1 : List (S32)) (r : Bool) (w : World) (hr0 : Kd.C k32 w A0 l0.length l0) (hc0 : l0.length ≤ c0) (hr1 : Kd.C k32 w A1 l1.length l1) (hc1 : l1.length ≤ c1) (h : backreachlaw06_TermPuts.f k l0 l1 = some r) :
    Calls Try.prog 6 #[.slice A0 l0.length c0, .slice A1 l1.length c1] w fun e w' => e = .returned (.bool r) ∧ Below w.heap.size w w' := by
  unfold backreachlaw06_TermPuts.f at h
  by_cases hf : (fitAll l0 && fitAll l1) = true
  case neg => rw [if_neg hf] at h; cases h
  rw [if_pos hf] at h
  obtain rfl : true = r := Option.some.inj h
  clear h
  have HR0 := Aside0.mk hr0
  have HR1 := Aside0.mk hr1
  have HB := Aside0.mk (Below.refl w.heap.size w)
  clear hr0 hr1
  by_cases s0 : 60 < (l0.length : Int)
  · have s0b : decide (60 < (l0.length : Int)) = true := decide_eq_true s0
    have s0c : decide (60 < l0.length) = true := decide_eq_true (by omega)
    go_enter Try.func6, Try.ntmps6
    go_wp2_with (first
    | (go_at_call 9; refine (backreachlaw06_awake.calls true _ rfl).mono ?_; rintro e wa ⟨rfl, hb⟩; have n0 := Aside0.mk (below_step HB.out hb); clear HB hb; have HB := n0; clear n0)
    | (go_at_call 10; refine (Ar.new w _ HB.out (fun _ => False) (fun _ h => h.elim)).mono ?_; rintro e wn ⟨g, rfl, hA, hb⟩; have n0 := Aside0.mk (below_step HB.out hb); have HA := Aside0.mk hA; clear HB hb hA; have HB := n0; clear n0)
    | ((with_reducible refine gate_dst (N := 29) rfl ?_); refine Kd.R_lit k32 _ 32 ?hg (N := 29) ?hd (xs := ([] : List (S32))) (inner := []) (ok := fun _ => True) (okp := fun _ => True) ?hr ?hp (fun _ hk => hk) trivial (Below.refl _ _) (Nat.le_refl _) (by simp) ?_; (case hd => rfl); (case hg => rfl); (case hr => first | (go_simp; done) | (go_simp; rfl)); (case hp => exact (Reps.none _ _)); intro va wl ho hb hg_ hnew_; clear hg_ hnew_; have n1 := Aside0.mk (HA.out.other (X' := fun k_ => some k_ = (va : Value).ownBlock) (Kept.below (Kept.refl _ (fun _ => False)) hb) (fun _ h => h) (below_step HB.out hb) (fun k_ e_ => .inr (Kd.R_base ho k_ e_.symm))); have n0 := Aside0.mk (below_step HB.out hb); have HVA := Aside0.mk (Kd.R_lower ho (Nat.zero_le _)); have HVN := Aside0.mk (show ∀ k_, (va : Value).ownBlock = some k_ → w.heap.size ≤ k_ from fun k_ e_ => Nat.le_trans (below_size HB.out) (Kd.R_base ho k_ e_)); clear HA HB ho hb; have HA := n1; have HB := n0; clear n0 n1)
    | ((with_reducible refine gate_builtin (b := .append) (xs := #[.tmp 29, .tmp 30]) rfl ?_); at_builtin; refine Kd.R_append_rows k32 (w0 := w) 0 rfl (.tmp 29) (.tmp 30) 22 32 (.agg #[(.int .i64 0), (.int .i64 0), (.int .u64 0), (.int .i64 0), (.int .i64 0), (.int .i64 0)]) 48 rfl Try.underlying22 info32 rfl (by decide) (by omega) va [] l0 _ _ _ (fun _ => True) (fun _ => False) rfl rfl HVA.out ?aR (fun _ _ h => h) (fun _ h => h.elim) (fun _ _ => trivial) (HB.out.mono (Nat.zero_le _)) (Nat.zero_le _) ?aL ?_; (case aR => exact (Kd.C_below HR0.out HB.out)); (case aL => have := HS0.out; simp; omega); intro vb wb ho hb0 hg hat; have hK := Kept.of_grown hg (Kept.refl _ (fun k_ => some k_ = (va : Value).ownBlock)) (fun k_ e_ => .inl e_.symm); have hB2 : Below w.heap.size w wb := (HB.out.grown hg (below_size HB.out) (fun k_ e_ => HVN.out k_ e_)); have n1 := Aside0.mk (HA.out.other (X' := fun k_ => some k_ = (vb : Value).ownBlock) hK (fun _ h => h) hB2 (fun k_ e_ => hat.elim (fun h => .inl (e_.trans h)) (fun ⟨b, h1, h2⟩ => .inr (by rw [h1] at e_; exact (Option.some.inj e_) ▸ h2)))); have HVB := Aside0.mk (Kd.R_tight rfl ho); have n0 := Aside0.mk hB2; clear HA HB ho hb0 hg hat hK hB2 HVA; have HA := n1; have HB := n0; clear n0 n1; (obtain ⟨Ab, cb, eb⟩ := Kd.R_slice HVB.out); subst eb))
    go_ret
    exact ⟨rfl, HB.out⟩
  · have s0b : decide (60 < (l0.length : Int)) = false := decide_eq_false s0
    have s0c : decide (60 < l0.length) = false := decide_eq_false (by omega)
    by_cases s1 : 60 < (l1.length : Int)
    · have s1b : decide (60 < (l1.length : Int)) = true := decide_eq_true s1
      have s1c : decide (60 < l1.length) = true := decide_eq_true (by omega)
      go_enter Try.func6, Try.ntmps6
      go_wp2_with (first
    | (go_at_call 9; refine (backreachlaw06_awake.calls true _ rfl).mono ?_; rintro e wa ⟨rfl, hb⟩; have n0 := Aside0.mk (below_step HB.out hb); clear HB hb; have HB := n0; clear n0)
    | (go_at_call 10; refine (Ar.new w _ HB.out (fun _ => False) (fun _ h => h.elim)).mono ?_; rintro e wn ⟨g, rfl, hA, hb⟩; have n0 := Aside0.mk (below_step HB.out hb); have HA := Aside0.mk hA; clear HB hb hA; have HB := n0; clear n0)
    | ((with_reducible refine gate_dst (N := 29) rfl ?_); refine Kd.R_lit k32 _ 32 ?hg (N := 29) ?hd (xs := ([] : List (S32))) (inner := []) (ok := fun _ => True) (okp := fun _ => True) ?hr ?hp (fun _ hk => hk) trivial (Below.refl _ _) (Nat.le_refl _) (by simp) ?_; (case hd => rfl); (case hg => rfl); (case hr => first | (go_simp; done) | (go_simp; rfl)); (case hp => exact (Reps.none _ _)); intro va wl ho hb hg_ hnew_; clear hg_ hnew_; have n1 := Aside0.mk (HA.out.other (X' := fun k_ => some k_ = (va : Value).ownBlock) (Kept.below (Kept.refl _ (fun _ => False)) hb) (fun _ h => h) (below_step HB.out hb) (fun k_ e_ => .inr (Kd.R_base ho k_ e_.symm))); have n0 := Aside0.mk (below_step HB.out hb); have HVA := Aside0.mk (Kd.R_lower ho (Nat.zero_le _)); have HVN := Aside0.mk (show ∀ k_, (va : Value).ownBlock = some k_ → w.heap.size ≤ k_ from fun k_ e_ => Nat.le_trans (below_size HB.out) (Kd.R_base ho k_ e_)); clear HA HB ho hb; have HA := n1; have HB := n0; clear n0 n1)
    | ((with_reducible refine gate_builtin (b := .append) (xs := #[.tmp 29, .tmp 30]) rfl ?_); at_builtin; refine Kd.R_append_rows k32 (w0 := w) 0 rfl (.tmp 29) (.tmp 30) 22 32 (.agg #[(.int .i64 0), (.int .i64 0), (.int .u64 0), (.int .i64 0), (.int .i64 0), (.int .i64 0)]) 48 rfl Try.underlying22 info32 rfl (by decide) (by omega) va [] l0 _ _ _ (fun _ => True) (fun _ => False) rfl rfl HVA.out ?aR (fun _ _ h => h) (fun _ h => h.elim) (fun _ _ => trivial) (HB.out.mono (Nat.zero_le _)) (Nat.zero_le _) ?aL ?_; (case aR => exact (Kd.C_below HR0.out HB.out)); (case aL => have := HS0.out; simp; omega); intro vb wb ho hb0 hg hat; have hK := Kept.of_grown hg (Kept.refl _ (fun k_ => some k_ = (va : Value).ownBlock)) (fun k_ e_ => .inl e_.symm); have hB2 : Below w.heap.size w wb := (HB.out.grown hg (below_size HB.out) (fun k_ e_ => HVN.out k_ e_)); have n1 := Aside0.mk (HA.out.other (X' := fun k_ => some k_ = (vb : Value).ownBlock) hK (fun _ h => h) hB2 (fun k_ e_ => hat.elim (fun h => .inl (e_.trans h)) (fun ⟨b, h1, h2⟩ => .inr (by rw [h1] at e_; exact (Option.some.inj e_) ▸ h2)))); have HVB := Aside0.mk (Kd.R_tight rfl ho); have n0 := Aside0.mk hB2; clear HA HB ho hb0 hg hat hK hB2 HVA; have HA := n1; have HB := n0; clear n0 n1; (obtain ⟨Ab, cb, eb⟩ := Kd.R_slice HVB.out); subst eb))
      go_ret
      exact ⟨rfl, HB.out⟩
    · have s1b : decide (60 < (l1.length : Int)) = false := decide_eq_false s1
      have s1c : decide (60 < l1.length) = false := decide_eq_false (by omega)
      have hff : (∀ a ∈ l0, okN a = true) ∧ (∀ a ∈ l1, okN a = true) := by simpa [fitAll, List.all_eq_true] using hf
      have HFF := Aside0.mk hff
      obtain ⟨m1, u1⟩ := Pure.put_term [] 0 l0 Pure.Good.nil hff.1 (by omega)
      have u2 := Pure.put_ref [] l0 Pure.Good.nil hff.1 (by omega)
      have g1 := Pure.put_good [] l0 Pure.Good.nil hff.1
      generalize Pure.putA [] l0 = q1 at u1 u2 g1
      obtain ⟨L1, i1, e1⟩ := q1
      obtain ⟨m2, u3⟩ := Pure.put_term L1 m1 l1 g1 hff.2 (by omega)
      have u4 := Pure.put_ref L1 l1 g1 hff.2 (by omega)
      have g2 := Pure.put_good L1 l1 g1 hff.2
      generalize Pure.putA L1 l1 = q2 at u3 u4 g2
      obtain ⟨L2, i2, e2⟩ := q2
      have ts : L2.length ≤ 65536 := g2.size
      obtain ⟨t2, ht2⟩ : ∃ t, t = Pure.termN L2 i2 := ⟨_, rfl⟩
      obtain ⟨t1, ht1⟩ : ∃ t, t = Pure.termN L2 i1 := ⟨_, rfl⟩
      have z2 : t2.length ≤ L2.length := by rw [ht2]; exact Pure.termN_len _ _
      have z1 : t1.length ≤ L2.length := by rw [ht1]; exact Pure.termN_len _ _
      obtain ⟨_, p1⟩ := u1.ex
      obtain ⟨_, p2⟩ := u2.ex
      obtain ⟨_, p3⟩ := u3.ex
      obtain ⟨_, p4⟩ := u4.ex
      obtain ⟨_, a2⟩ := (Pure.term_term L2 g2 i2).ex
      obtain ⟨_, a1⟩ := (Pure.term_term L2 g2 i1).ex
      obtain ⟨_, b2⟩ := (Pure.term_ref L2 g2 i2).ex
      obtain ⟨_, b1⟩ := (Pure.term_ref L2 g2 i1).ex
      obtain ⟨_, s2_⟩ := (Pure.same_self t2 (by omega)).ex
      obtain ⟨_, s1_⟩ := (Pure.same_self t1 (by omega)).ex
      rw [← ht2] at a2 b2
      rw [← ht1] at a1 b1
      have HP1 := Aside0.mk p1
      have HP2 := Aside0.mk p2
      have HP3 := Aside0.mk p3
      have HP4 := Aside0.mk p4
      have HT2 := Aside0.mk a2
      have HT1 := Aside0.mk a1
      have HU2 := Aside0.mk b2
      have HU1 := Aside0.mk b1
      have HE2 := Aside0.mk s2_
      have HE1 := Aside0.mk s1_
      clear u1 u2 u3 u4 g1 g2 ts ht2 ht1 z2 z1 p1 p2 p3 p4 a2 a1 b2 b1 s2_ s1_ hff hf
      have HS0 := Aside0.mk s0
      have HS1 := Aside0.mk s1
      clear s0 s1
      by_cases d2 : e2 = 0
      · have d2b : (e2 != 0) = false := bne_eq_false_iff_eq.mpr d2
        clear d2
        by_cases d1 : e1 = 0
        · have d1b : (e1 != 0) = false := bne_eq_false_iff_eq.mpr d1
          clear d1
          go_enter Try.func6, Try.ntmps6
          go_wp2_with (first
    | (go_at_call 9; refine (backreachlaw06_awake.calls true _ rfl).mono ?_; rintro e wa ⟨rfl, hb⟩; have n0 := Aside0.mk (below_step HB.out hb); clear HB hb; have HB := n0; clear n0)
    | (go_at_call 10; refine (Ar.new w _ HB.out (fun _ => False) (fun _ h => h.elim)).mono ?_; rintro e wn ⟨g, rfl, hA, hb⟩; have n0 := Aside0.mk (below_step HB.out hb); have HA := Aside0.mk hA; clear HB hb hA; have HB := n0; clear n0)
    | ((with_reducible refine gate_dst (N := 29) rfl ?_); refine Kd.R_lit k32 _ 32 ?hg (N := 29) ?hd (xs := ([] : List (S32))) (inner := []) (ok := fun _ => True) (okp := fun _ => True) ?hr ?hp (fun _ hk => hk) trivial (Below.refl _ _) (Nat.le_refl _) (by simp) ?_; (case hd => rfl); (case hg => rfl); (case hr => first | (go_simp; done) | (go_simp; rfl)); (case hp => exact (Reps.none _ _)); intro va wl ho hb hg_ hnew_; clear hg_ hnew_; have n1 := Aside0.mk (HA.out.other (X' := fun k_ => some k_ = (va : Value).ownBlock) (Kept.below (Kept.refl _ (fun _ => False)) hb) (fun _ h => h) (below_step HB.out hb) (fun k_ e_ => .inr (Kd.R_base ho k_ e_.symm))); have n0 := Aside0.mk (below_step HB.out hb); have HVA := Aside0.mk (Kd.R_lower ho (Nat.zero_le _)); have HVN := Aside0.mk (show ∀ k_, (va : Value).ownBlock = some k_ → w.heap.size ≤ k_ from fun k_ e_ => Nat.le_trans (below_size HB.out) (Kd.R_base ho k_ e_)); clear HA HB ho hb; have HA := n1; have HB := n0; clear n0 n1)
    | ((with_reducible refine gate_builtin (b := .append) (xs := #[.tmp 29, .tmp 30]) rfl ?_); at_builtin; refine Kd.R_append_rows k32 (w0 := w) 0 rfl (.tmp 29) (.tmp 30) 22 32 (.agg #[(.int .i64 0), (.int .i64 0), (.int .u64 0), (.int .i64 0), (.int .i64 0), (.int .i64 0)]) 48 rfl Try.underlying22 info32 rfl (by decide) (by omega) va [] l0 _ _ _ (fun _ => True) (fun _ => False) rfl rfl HVA.out ?aR (fun _ _ h => h) (fun _ h => h.elim) (fun _ _ => trivial) (HB.out.mono (Nat.zero_le _)) (Nat.zero_le _) ?aL ?_; (case aR => exact (Kd.C_below HR0.out HB.out)); (case aL => have := HS0.out; simp; omega); intro vb wb ho hb0 hg hat; have hK := Kept.of_grown hg (Kept.refl _ (fun k_ => some k_ = (va : Value).ownBlock)) (fun k_ e_ => .inl e_.symm); have hB2 : Below w.heap.size w wb := (HB.out.grown hg (below_size HB.out) (fun k_ e_ => HVN.out k_ e_)); have n1 := Aside0.mk (HA.out.other (X' := fun k_ => some k_ = (vb : Value).ownBlock) hK (fun _ h => h) hB2 (fun k_ e_ => hat.elim (fun h => .inl (e_.trans h)) (fun ⟨b, h1, h2⟩ => .inr (by rw [h1] at e_; exact (Option.some.inj e_) ▸ h2)))); have HVB := Aside0.mk (Kd.R_tight rfl ho); have n0 := Aside0.mk hB2; clear HA HB ho hb0 hg hat hK hB2 HVA; have HA := n1; have HB := n0; clear n0 n1; (obtain ⟨Ab, cb, eb⟩ := Kd.R_slice HVB.out); subst eb))
          go_at_call 23
          have q := Ar.put (l := l0) HA.out (fun k_ e_ => Kd.R_lt HVB.out k_ e_.symm) (fun W hW => (Kd.R_reads' (Kd.R_kept HVB.out hW (fun k_ e_ hs => hs.2.2 e_))).2.2) (Kd.R_reads' HVB.out).2.1 HP1.out
          refine q.mono ?_
          clear q
          rintro e w5 ⟨rfl, hA, hB, hK⟩
          clear HA HB HVB HP1
          have HA := Aside0.mk hA
          have HB := Aside0.mk hB
          clear hA hB hK
          go_wp2_with (fail)
          go_at_call 24
          have q := backreachref06_Put.calls _ (fun _ => False) (.slice none 0 0) [] A0 c0 l0 L1 i1 e1 w _ HB.out (Kd.R_nil _ _ _ _ _) (fun W hW => C_keeps HR0.out HB.out hW (fun _ h => h.elim)) hc0 HP2.out
          refine q.mono ?_
          clear q
          rintro e w6 ⟨v8, rfl, ho, hB, hK⟩
          have n0 := Aside0.mk (HA.out.other (X' := fun k_ => some k_ = (v8 : Value).ownBlock) hK (fun _ h => h.elim) hB (fun k_ e_ => (ho.1 k_ e_.symm).elim (fun h => h.elim) .inr))
          have HV8 := Aside0.mk (Kd.R_tight rfl ho)
          clear HA HB HP2
          have HA := n0
          have HB := Aside0.mk hB
          clear n0 ho hB hK
          (obtain ⟨A8, c8, e8⟩ := Kd.R_slice HV8.out)
          subst e8
          go_wp2_with (fail)
          go_at_call 23
          have q := Ar.put (l := l1) HA.out (fun k_ e_ => Kd.R_lt HV8.out k_ e_.symm) (fun W hW => C_keeps HR1.out HB.out hW (fun k_ h => h.1)) hc1 HP3.out
          refine q.mono ?_
          clear q
          rintro e w7 ⟨rfl, hA, hB, hK⟩
          have n1 := Aside0.mk (Kd.R_kept HV8.out hK (fun k_ e_ hs => hs.2.2 e_))
          clear HA HB HV8 HP3
          have HA := Aside0.mk hA
          have HB := Aside0.mk hB
          have HV8 := n1
          clear hA hB hK n1
          go_wp2_with (fail)
          go_at_call 24
          have q := backreachref06_Put.calls _ (fun k_ => some k_ = (.slice A8 L1.length c8 : Value).ownBlock) (.slice A8 L1.length c8) L1 A1 c1 l1 L2 i2 e2 w _ HB.out HV8.out (fun W hW => C_keeps HR1.out HB.out hW (fun k_ e_ => Kd.R_base HV8.out k_ e_.symm)) hc1 HP4.out
          refine q.mono ?_
          clear q
          rintro e w9 ⟨v13, rfl, ho, hB, hK⟩
          have n0 := Aside0.mk (HA.out.other (X' := fun k_ => some k_ = (v13 : Value).ownBlock) hK (fun _ h => h) hB (fun k_ e_ => ho.1 k_ e_.symm))
          have HV13 := Aside0.mk (Kd.R_tight rfl ho)
          clear HA HB HV8 HP4
          have HA := n0
          have HB := Aside0.mk hB
          clear n0 ho hB hK
          (obtain ⟨A13, c13, e13⟩ := Kd.R_slice HV13.out)
          subst e13
          go_wp2_with (fail)
          go_at_call 13
          have q := Ar.len HA.out
          refine q.mono ?_
          clear q
          rintro e wd ⟨rfl, hD⟩
          have hb := hD.below
          clear hD
          have n0 := Aside0.mk (HA.out.below hb)
          have n1 := Aside0.mk (Kd.R_below HV13.out hb)
          have n2 := Aside0.mk (below_step HB.out hb)
          clear HA HV13 HB
          have HA := n0
          have HV13 := n1
          have HB := n2
          clear n0 n1 n2
          clear hb
          go_wp2_with (fail)
          go_at_call 17
          have q := Ar.term HA.out HT2.out
          refine q.mono ?_
          clear q
          rintro e wt ⟨vt, rfl, hb, hR⟩
          (obtain ⟨At, ct, et⟩ := Kd.R_slice hR)
          subst et
          have n0 := Aside0.mk (HA.out.below hb)
          have n1 := Aside0.mk (Kd.R_below HV13.out hb)
          have n2 := Aside0.mk (below_step HB.out hb)
          clear HA HV13 HB
          have HA := n0
          have HV13 := n1
          have HB := n2
          clear n0 n1 n2
          have HVT := Aside0.mk hR
          clear hb hR
          go_wp2_with (fail)
          go_at_call 18
          have q := backreachref06_Term.calls _ _ _ L2 i2 t2 _ (Kd.R_reads' HV13.out).2.2 (Kd.R_reads' HV13.out).2.1 HU2.out
          refine q.mono ?_
          clear q
          rintro e wu ⟨vu, rfl, hR, hb⟩
          (obtain ⟨Au, cu, eu⟩ := Kd.R_slice hR)
          subst eu
          have n0 := Aside0.mk (HA.out.below hb)
          have n1 := Aside0.mk (Kd.R_below HV13.out hb)
          have n2 := Aside0.mk (below_step HB.out hb)
          clear HA HV13 HB
          have HA := n0
          have HV13 := n1
          have HB := n2
          clear n0 n1 n2
          have n3 := Aside0.mk (Kd.R_below HVT.out hb)
          clear HVT
          have HVT := n3
          clear n3
          have HVU := Aside0.mk hR
          clear hb hR
          go_wp2_with (fail)
          go_at_call 16
          have q := backreachref06_Same.calls _ _ _ t2 _ _ t2 true _ (Kd.R_reads' HVT.out).2.2 (Kd.R_reads' HVT.out).2.1 (Kd.R_reads' HVU.out).2.2 (Kd.R_reads' HVU.out).2.1 HE2.out
          refine q.mono ?_
          clear q
          rintro e ws ⟨rfl, hd⟩
          have hb := hd.below
          clear hd
          have n0 := Aside0.mk (HA.out.below hb)
          have n1 := Aside0.mk (Kd.R_below HV13.out hb)
          have n2 := Aside0.mk (below_step HB.out hb)
          clear HA HV13 HB
          have HA := n0
          have HV13 := n1
          have HB := n2
          clear n0 n1 n2
          clear hb HVT HVU
          go_wp2_with (fail)
          go_at_call 17
          have q := Ar.term HA.out HT1.out
          refine q.mono ?_
          clear q
          rintro e wt ⟨vt, rfl, hb, hR⟩
          (obtain ⟨At, ct, et⟩ := Kd.R_slice hR)
          subst et
          have n0 := Aside0.mk (HA.out.below hb)
          have n1 := Aside0.mk (Kd.R_below HV13.out hb)
          have n2 := Aside0.mk (below_step HB.out hb)
          clear HA HV13 HB
          have HA := n0
          have HV13 := n1
          have HB := n2
          clear n0 n1 n2
          have HVT := Aside0.mk hR
          clear hb hR
          go_wp2_with (fail)
          go_at_call 18
          have q := backreachref06_Term.calls _ _ _ L2 i1 t1 _ (Kd.R_reads' HV13.out).2.2 (Kd.R_reads' HV13.out).2.1 HU1.out
          refine q.mono ?_
          clear q
          rintro e wu ⟨vu, rfl, hR, hb⟩
          (obtain ⟨Au, cu, eu⟩ := Kd.R_slice hR)
          subst eu
          have n0 := Aside0.mk (HA.out.below hb)
          have n1 := Aside0.mk (Kd.R_below HV13.out hb)
          have n2 := Aside0.mk (below_step HB.out hb)
          clear HA HV13 HB
          have HA := n0
          have HV13 := n1
          have HB := n2
          clear n0 n1 n2
          have n3 := Aside0.mk (Kd.R_below HVT.out hb)
          clear HVT
          have HVT := n3
          clear n3
          have HVU := Aside0.mk hR
          clear hb hR
          go_wp2_with (fail)
          go_at_call 16
          have q := backreachref06_Same.calls _ _ _ t1 _ _ t1 true _ (Kd.R_reads' HVT.out).2.2 (Kd.R_reads' HVT.out).2.1 (Kd.R_reads' HVU.out).2.2 (Kd.R_reads' HVU.out).2.1 HE1.out
          refine q.mono ?_
          clear q
          rintro e ws ⟨rfl, hd⟩
          have hb := hd.below
          clear hd
          have n0 := Aside0.mk (HA.out.below hb)
          have n1 := Aside0.mk (Kd.R_below HV13.out hb)
          have n2 := Aside0.mk (below_step HB.out hb)
          clear HA HV13 HB
          have HA := n0
          have HV13 := n1
          have HB := n2
          clear n0 n1 n2
          clear hb HVT HVU
          go_wp2
          go_ret
          exact ⟨rfl, HB.out⟩
        · have d1b : (e1 != 0) = true := bne_iff_ne.mpr d1
          clear d1
          go_enter Try.func6, Try.ntmps6
          go_wp2_with (first
    | (go_at_call 9; refine (backreachlaw06_awake.calls true _ rfl).mono ?_; rintro e wa ⟨rfl, hb⟩; have n0 := Aside0.mk (below_step HB.out hb); clear HB hb; have HB := n0; clear n0)
    | (go_at_call 10; refine (Ar.new w _ HB.out (fun _ => False) (fun _ h => h.elim)).mono ?_; rintro e wn ⟨g, rfl, hA, hb⟩; have n0 := Aside0.mk (below_step HB.out hb); have HA := Aside0.mk hA; clear HB hb hA; have HB := n0; clear n0)
    | ((with_reducible refine gate_dst (N := 29) rfl ?_); refine Kd.R_lit k32 _ 32 ?hg (N := 29) ?hd (xs := ([] : List (S32))) (inner := []) (ok := fun _ => True) (okp := fun _ => True) ?hr ?hp (fun _ hk => hk) trivial (Below.refl _ _) (Nat.le_refl _) (by simp) ?_; (case hd => rfl); (case hg => rfl); (case hr => first | (go_simp; done) | (go_simp; rfl)); (case hp => exact (Reps.none _ _)); intro va wl ho hb hg_ hnew_; clear hg_ hnew_; have n1 := Aside0.mk (HA.out.other (X' := fun k_ => some k_ = (va : Value).ownBlock) (Kept.below (Kept.refl _ (fun _ => False)) hb) (fun _ h => h) (below_step HB.out hb) (fun k_ e_ => .inr (Kd.R_base ho k_ e_.symm))); have n0 := Aside0.mk (below_step HB.out hb); have HVA := Aside0.mk (Kd.R_lower ho (Nat.zero_le _)); have HVN := Aside0.mk (show ∀ k_, (va : Value).ownBlock = some k_ → w.heap.size ≤ k_ from fun k_ e_ => Nat.le_trans (below_size HB.out) (Kd.R_base ho k_ e_)); clear HA HB ho hb; have HA := n1; have HB := n0; clear n0 n1)
    | ((with_reducible refine gate_builtin (b := .append) (xs := #[.tmp 29, .tmp 30]) rfl ?_); at_builtin; refine Kd.R_append_rows k32 (w0 := w) 0 rfl (.tmp 29) (.tmp 30) 22 32 (.agg #[(.int .i64 0), (.int .i64 0), (.int .u64 0), (.int .i64 0), (.int .i64 0), (.int .i64 0)]) 48 rfl Try.underlying22 info32 rfl (by decide) (by omega) va [] l0 _ _ _ (fun _ => True) (fun _ => False) rfl rfl HVA.out ?aR (fun _ _ h => h) (fun _ h => h.elim) (fun _ _ => trivial) (HB.out.mono (Nat.zero_le _)) (Nat.zero_le _) ?aL ?_; (case aR => exact (Kd.C_below HR0.out HB.out)); (case aL => have := HS0.out; simp; omega); intro vb wb ho hb0 hg hat; have hK := Kept.of_grown hg (Kept.refl _ (fun k_ => some k_ = (va : Value).ownBlock)) (fun k_ e_ => .inl e_.symm); have hB2 : Below w.heap.size w wb := (HB.out.grown hg (below_size HB.out) (fun k_ e_ => HVN.out k_ e_)); have n1 := Aside0.mk (HA.out.other (X' := fun k_ => some k_ = (vb : Value).ownBlock) hK (fun _ h => h) hB2 (fun k_ e_ => hat.elim (fun h => .inl (e_.trans h)) (fun ⟨b, h1, h2⟩ => .inr (by rw [h1] at e_; exact (Option.some.inj e_) ▸ h2)))); have HVB := Aside0.mk (Kd.R_tight rfl ho); have n0 := Aside0.mk hB2; clear HA HB ho hb0 hg hat hK hB2 HVA; have HA := n1; have HB := n0; clear n0 n1; (obtain ⟨Ab, cb, eb⟩ := Kd.R_slice HVB.out); subst eb))
          go_at_call 23
          have q := Ar.put (l := l0) HA.out (fun k_ e_ => Kd.R_lt HVB.out k_ e_.symm) (fun W hW => (Kd.R_reads' (Kd.R_kept HVB.out hW (fun k_ e_ hs => hs.2.2 e_))).2.2) (Kd.R_reads' HVB.out).2.1 HP1.out
          refine q.mono ?_
          clear q
          rintro e w5 ⟨rfl, hA, hB, hK⟩
          clear HA HB HVB HP1
          have HA := Aside0.mk hA
          have HB := Aside0.mk hB
          clear hA hB hK
          go_wp2_with (fail)
          go_at_call 24
          have q := backreachref06_Put.calls _ (fun _ => False) (.slice none 0 0) [] A0 c0 l0 L1 i1 e1 w _ HB.out (Kd.R_nil _ _ _ _ _) (fun W hW => C_keeps HR0.out HB.out hW (fun _ h => h.elim)) hc0 HP2.out
          refine q.mono ?_
          clear q
          rintro e w6 ⟨v8, rfl, ho, hB, hK⟩
          have n0 := Aside0.mk (HA.out.other (X' := fun k_ => some k_ = (v8 : Value).ownBlock) hK (fun _ h => h.elim) hB (fun k_ e_ => (ho.1 k_ e_.symm).elim (fun h => h.elim) .inr))
          have HV8 := Aside0.mk (Kd.R_tight rfl ho)
          clear HA HB HP2
          have HA := n0
          have HB := Aside0.mk hB
          clear n0 ho hB hK
          (obtain ⟨A8, c8, e8⟩ := Kd.R_slice HV8.out)
          subst e8
          go_wp2_with (fail)
          go_at_call 23
          have q := Ar.put (l := l1) HA.out (fun k_ e_ => Kd.R_lt HV8.out k_ e_.symm) (fun W hW => C_keeps HR1.out HB.out hW (fun k_ h => h.1)) hc1 HP3.out
          refine q.mono ?_
          clear q
          rintro e w7 ⟨rfl, hA, hB, hK⟩
          have n1 := Aside0.mk (Kd.R_kept HV8.out hK (fun k_ e_ hs => hs.2.2 e_))
          clear HA HB HV8 HP3
          have HA := Aside0.mk hA
          have HB := Aside0.mk hB
          have HV8 := n1
          clear hA hB hK n1
          go_wp2_with (fail)
          go_at_call 24
          have q := backreachref06_Put.calls _ (fun k_ => some k_ = (.slice A8 L1.length c8 : Value).ownBlock) (.slice A8 L1.length c8) L1 A1 c1 l1 L2 i2 e2 w _ HB.out HV8.out (fun W hW => C_keeps HR1.out HB.out hW (fun k_ e_ => Kd.R_base HV8.out k_ e_.symm)) hc1 HP4.out
          refine q.mono ?_
          clear q
          rintro e w9 ⟨v13, rfl, ho, hB, hK⟩
          have n0 := Aside0.mk (HA.out.other (X' := fun k_ => some k_ = (v13 : Value).ownBlock) hK (fun _ h => h) hB (fun k_ e_ => ho.1 k_ e_.symm))
          have HV13 := Aside0.mk (Kd.R_tight rfl ho)
          clear HA HB HV8 HP4
          have HA := n0
          have HB := Aside0.mk hB
          clear n0 ho hB hK
          (obtain ⟨A13, c13, e13⟩ := Kd.R_slice HV13.out)
          subst e13
          go_wp2_with (fail)
          go_at_call 13
          have q := Ar.len HA.out
          refine q.mono ?_
          clear q
          rintro e wd ⟨rfl, hD⟩
          have hb := hD.below
          clear hD
          have n0 := Aside0.mk (HA.out.below hb)
          have n1 := Aside0.mk (Kd.R_below HV13.out hb)
          have n2 := Aside0.mk (below_step HB.out hb)
          clear HA HV13 HB
          have HA := n0
          have HV13 := n1
          have HB := n2
          clear n0 n1 n2
          clear hb
          go_wp2_with (fail)
          go_at_call 17
          have q := Ar.term HA.out HT2.out
          refine q.mono ?_
          clear q
          rintro e wt ⟨vt, rfl, hb, hR⟩
          (obtain ⟨At, ct, et⟩ := Kd.R_slice hR)
          subst et
          have n0 := Aside0.mk (HA.out.below hb)
          have n1 := Aside0.mk (Kd.R_below HV13.out hb)
          have n2 := Aside0.mk (below_step HB.out hb)
          clear HA HV13 HB
          have HA := n0
          have HV13 := n1
          have HB := n2
          clear n0 n1 n2
          have HVT := Aside0.mk hR
          clear hb hR
          go_wp2_with (fail)
          go_at_call 18
          have q := backreachref06_Term.calls _ _ _ L2 i2 t2 _ (Kd.R_reads' HV13.out).2.2 (Kd.R_reads' HV13.out).2.1 HU2.out
          refine q.mono ?_
          clear q
          rintro e wu ⟨vu, rfl, hR, hb⟩
          (obtain ⟨Au, cu, eu⟩ := Kd.R_slice hR)
          subst eu
          have n0 := Aside0.mk (HA.out.below hb)
          have n1 := Aside0.mk (Kd.R_below HV13.out hb)
          have n2 := Aside0.mk (below_step HB.out hb)
          clear HA HV13 HB
          have HA := n0
          have HV13 := n1
          have HB := n2
          clear n0 n1 n2
          have n3 := Aside0.mk (Kd.R_below HVT.out hb)
          clear HVT
          have HVT := n3
          clear n3
          have HVU := Aside0.mk hR
          clear hb hR
          go_wp2_with (fail)
          go_at_call 16
          have q := backreachref06_Same.calls _ _ _ t2 _ _ t2 true _ (Kd.R_reads' HVT.out).2.2 (Kd.R_reads' HVT.out).2.1 (Kd.R_reads' HVU.out).2.2 (Kd.R_reads' HVU.out).2.1 HE2.out
          refine q.mono ?_
          clear q
          rintro e ws ⟨rfl, hd⟩
          have hb := hd.below
          clear hd
          have n0 := Aside0.mk (HA.out.below hb)
          have n1 := Aside0.mk (Kd.R_below HV13.out hb)
          have n2 := Aside0.mk (below_step HB.out hb)
          clear HA HV13 HB
          have HA := n0
          have HV13 := n1
          have HB := n2
          clear n0 n1 n2
          clear hb HVT HVU
          go_wp2
          go_ret
          exact ⟨rfl, HB.out⟩
      · have d2b : (e2 != 0) = true := bne_iff_ne.mpr d2
        clear d2
        by_cases d1 : e1 = 0
        · have d1b : (e1 != 0) = false := bne_eq_false_iff_eq.mpr d1
          clear d1
          go_enter Try.func6, Try.ntmps6
          go_wp2_with (first
    | (go_at_call 9; refine (backreachlaw06_awake.calls true _ rfl).mono ?_; rintro e wa ⟨rfl, hb⟩; have n0 := Aside0.mk (below_step HB.out hb); clear HB hb; have HB := n0; clear n0)
    | (go_at_call 10; refine (Ar.new w _ HB.out (fun _ => False) (fun _ h => h.elim)).mono ?_; rintro e wn ⟨g, rfl, hA, hb⟩; have n0 := Aside0.mk (below_step HB.out hb); have HA := Aside0.mk hA; clear HB hb hA; have HB := n0; clear n0)
    | ((with_reducible refine gate_dst (N := 29) rfl ?_); refine Kd.R_lit k32 _ 32 ?hg (N := 29) ?hd (xs := ([] : List (S32))) (inner := []) (ok := fun _ => True) (okp := fun _ => True) ?hr ?hp (fun _ hk => hk) trivial (Below.refl _ _) (Nat.le_refl _) (by simp) ?_; (case hd => rfl); (case hg => rfl); (case hr => first | (go_simp; done) | (go_simp; rfl)); (case hp => exact (Reps.none _ _)); intro va wl ho hb hg_ hnew_; clear hg_ hnew_; have n1 := Aside0.mk (HA.out.other (X' := fun k_ => some k_ = (va : Value).ownBlock) (Kept.below (Kept.refl _ (fun _ => False)) hb) (fun _ h => h) (below_step HB.out hb) (fun k_ e_ => .inr (Kd.R_base ho k_ e_.symm))); have n0 := Aside0.mk (below_step HB.out hb); have HVA := Aside0.mk (Kd.R_lower ho (Nat.zero_le _)); have HVN := Aside0.mk (show ∀ k_, (va : Value).ownBlock = some k_ → w.heap.size ≤ k_ from fun k_ e_ => Nat.le_trans (below_size HB.out) (Kd.R_base ho k_ e_)); clear HA HB ho hb; have HA := n1; have HB := n0; clear n0 n1)
    | ((with_reducible refine gate_builtin (b := .append) (xs := #[.tmp 29, .tmp 30]) rfl ?_); at_builtin; refine Kd.R_append_rows k32 (w0 := w) 0 rfl (.tmp 29) (.tmp 30) 22 32 (.agg #[(.int .i64 0), (.int .i64 0), (.int .u64 0), (.int .i64 0), (.int .i64 0), (.int .i64 0)]) 48 rfl Try.underlying22 info32 rfl (by decide) (by omega) va [] l0 _ _ _ (fun _ => True) (fun _ => False) rfl rfl HVA.out ?aR (fun _ _ h => h) (fun _ h => h.elim) (fun _ _ => trivial) (HB.out.mono (Nat.zero_le _)) (Nat.zero_le _) ?aL ?_; (case aR => exact (Kd.C_below HR0.out HB.out)); (case aL => have := HS0.out; simp; omega); intro vb wb ho hb0 hg hat; have hK := Kept.of_grown hg (Kept.refl _ (fun k_ => some k_ = (va : Value).ownBlock)) (fun k_ e_ => .inl e_.symm); have hB2 : Below w.heap.size w wb := (HB.out.grown hg (below_size HB.out) (fun k_ e_ => HVN.out k_ e_)); have n1 := Aside0.mk (HA.out.other (X' := fun k_ => some k_ = (vb : Value).ownBlock) hK (fun _ h => h) hB2 (fun k_ e_ => hat.elim (fun h => .inl (e_.trans h)) (fun ⟨b, h1, h2⟩ => .inr (by rw [h1] at e_; exact (Option.some.inj e_) ▸ h2)))); have HVB := Aside0.mk (Kd.R_tight rfl ho); have n0 := Aside0.mk hB2; clear HA HB ho hb0 hg hat hK hB2 HVA; have HA := n1; have HB := n0; clear n0 n1; (obtain ⟨Ab, cb, eb⟩ := Kd.R_slice HVB.out); subst eb))
          go_at_call 23
          have q := Ar.put (l := l0) HA.out (fun k_ e_ => Kd.R_lt HVB.out k_ e_.symm) (fun W hW => (Kd.R_reads' (Kd.R_kept HVB.out hW (fun k_ e_ hs => hs.2.2 e_))).2.2) (Kd.R_reads' HVB.out).2.1 HP1.out
          refine q.mono ?_
          clear q
          rintro e w5 ⟨rfl, hA, hB, hK⟩
          clear HA HB HVB HP1
          have HA := Aside0.mk hA
          have HB := Aside0.mk hB
          clear hA hB hK
          go_wp2_with (fail)
          go_at_call 24
          have q := backreachref06_Put.calls _ (fun _ => False) (.slice none 0 0) [] A0 c0 l0 L1 i1 e1 w _ HB.out (Kd.R_nil _ _ _ _ _) (fun W hW => C_keeps HR0.out HB.out hW (fun _ h => h.elim)) hc0 HP2.out
          refine q.mono ?_
          clear q
          rintro e w6 ⟨v8, rfl, ho, hB, hK⟩
          have n0 := Aside0.mk (HA.out.other (X' := fun k_ => some k_ = (v8 : Value).ownBlock) hK (fun _ h => h.elim) hB (fun k_ e_ => (ho.1 k_ e_.symm).elim (fun h => h.elim) .inr))
          have HV8 := Aside0.mk (Kd.R_tight rfl ho)
          clear HA HB HP2
          have HA := n0
          have HB := Aside0.mk hB
          clear n0 ho hB hK
          (obtain ⟨A8, c8, e8⟩ := Kd.R_slice HV8.out)
          subst e8
          go_wp2_with (fail)
          go_at_call 23
          have q := Ar.put (l := l1) HA.out (fun k_ e_ => Kd.R_lt HV8.out k_ e_.symm) (fun W hW => C_keeps HR1.out HB.out hW (fun k_ h => h.1)) hc1 HP3.out
          refine q.mono ?_
          clear q
          rintro e w7 ⟨rfl, hA, hB, hK⟩
          have n1 := Aside0.mk (Kd.R_kept HV8.out hK (fun k_ e_ hs => hs.2.2 e_))
          clear HA HB HV8 HP3
          have HA := Aside0.mk hA
          have HB := Aside0.mk hB
          have HV8 := n1
          clear hA hB hK n1
          go_wp2_with (fail)
          go_at_call 24
          have q := backreachref06_Put.calls _ (fun k_ => some k_ = (.slice A8 L1.length c8 : Value).ownBlock) (.slice A8 L1.length c8) L1 A1 c1 l1 L2 i2 e2 w _ HB.out HV8.out (fun W hW => C_keeps HR1.out HB.out hW (fun k_ e_ => Kd.R_base HV8.out k_ e_.symm)) hc1 HP4.out
          refine q.mono ?_
          clear q
          rintro e w9 ⟨v13, rfl, ho, hB, hK⟩
          have n0 := Aside0.mk (HA.out.other (X' := fun k_ => some k_ = (v13 : Value).ownBlock) hK (fun _ h => h) hB (fun k_ e_ => ho.1 k_ e_.symm))
          have HV13 := Aside0.mk (Kd.R_tight rfl ho)
          clear HA HB HV8 HP4
          have HA := n0
          have HB := Aside0.mk hB
          clear n0 ho hB hK
          (obtain ⟨A13, c13, e13⟩ := Kd.R_slice HV13.out)
          subst e13
          go_wp2_with (fail)
          go_at_call 13
          have q := Ar.len HA.out
          refine q.mono ?_
          clear q
          rintro e wd ⟨rfl, hD⟩
          have hb := hD.below
          clear hD
          have n0 := Aside0.mk (HA.out.below hb)
          have n1 := Aside0.mk (Kd.R_below HV13.out hb)
          have n2 := Aside0.mk (below_step HB.out hb)
          clear HA HV13 HB
          have HA := n0
          have HV13 := n1
          have HB := n2
          clear n0 n1 n2
          clear hb
          go_wp2_with (fail)
          go_at_call 17
          have q := Ar.term HA.out HT1.out
          refine q.mono ?_
          clear q
          rintro e wt ⟨vt, rfl, hb, hR⟩
          (obtain ⟨At, ct, et⟩ := Kd.R_slice hR)
          subst et
          have n0 := Aside0.mk (HA.out.below hb)
          have n1 := Aside0.mk (Kd.R_below HV13.out hb)
          have n2 := Aside0.mk (below_step HB.out hb)
          clear HA HV13 HB
          have HA := n0
          have HV13 := n1
          have HB := n2
          clear n0 n1 n2
          have HVT := Aside0.mk hR
          clear hb hR
          go_wp2_with (fail)
          go_at_call 18
          have q := backreachref06_Term.calls _ _ _ L2 i1 t1 _ (Kd.R_reads' HV13.out).2.2 (Kd.R_reads' HV13.out).2.1 HU1.out
          refine q.mono ?_
          clear q
          rintro e wu ⟨vu, rfl, hR, hb⟩
          (obtain ⟨Au, cu, eu⟩ := Kd.R_slice hR)
          subst eu
          have n0 := Aside0.mk (HA.out.below hb)
          have n1 := Aside0.mk (Kd.R_below HV13.out hb)
          have n2 := Aside0.mk (below_step HB.out hb)
          clear HA HV13 HB
          have HA := n0
          have HV13 := n1
          have HB := n2
          clear n0 n1 n2
          have n3 := Aside0.mk (Kd.R_below HVT.out hb)
          clear HVT
          have HVT := n3
          clear n3
          have HVU := Aside0.mk hR
          clear hb hR
          go_wp2_with (fail)
          go_at_call 16
          have q := backreachref06_Same.calls _ _ _ t1 _ _ t1 true _ (Kd.R_reads' HVT.out).2.2 (Kd.R_reads' HVT.out).2.1 (Kd.R_reads' HVU.out).2.2 (Kd.R_reads' HVU.out).2.1 HE1.out
          refine q.mono ?_
          clear q
          rintro e ws ⟨rfl, hd⟩
          have hb := hd.below
          clear hd
          have n0 := Aside0.mk (HA.out.below hb)
          have n1 := Aside0.mk (Kd.R_below HV13.out hb)
          have n2 := Aside0.mk (below_step HB.out hb)
          clear HA HV13 HB
          have HA := n0
          have HV13 := n1
          have HB := n2
          clear n0 n1 n2
          clear hb HVT HVU
          go_wp2
          go_ret
          exact ⟨rfl, HB.out⟩
        · have d1b : (e1 != 0) = true := bne_iff_ne.mpr d1
          clear d1
          go_enter Try.func6, Try.ntmps6
          go_wp2_with (first
    | (go_at_call 9; refine (backreachlaw06_awake.calls true _ rfl).mono ?_; rintro e wa ⟨rfl, hb⟩; have n0 := Aside0.mk (below_step HB.out hb); clear HB hb; have HB := n0; clear n0)
    | (go_at_call 10; refine (Ar.new w _ HB.out (fun _ => False) (fun _ h => h.elim)).mono ?_; rintro e wn ⟨g, rfl, hA, hb⟩; have n0 := Aside0.mk (below_step HB.out hb); have HA := Aside0.mk hA; clear HB hb hA; have HB := n0; clear n0)
    | ((with_reducible refine gate_dst (N := 29) rfl ?_); refine Kd.R_lit k32 _ 32 ?hg (N := 29) ?hd (xs := ([] : List (S32))) (inner := []) (ok := fun _ => True) (okp := fun _ => True) ?hr ?hp (fun _ hk => hk) trivial (Below.refl _ _) (Nat.le_refl _) (by simp) ?_; (case hd => rfl); (case hg => rfl); (case hr => first | (go_simp; done) | (go_simp; rfl)); (case hp => exact (Reps.none _ _)); intro va wl ho hb hg_ hnew_; clear hg_ hnew_; have n1 := Aside0.mk (HA.out.other (X' := fun k_ => some k_ = (va : Value).ownBlock) (Kept.below (Kept.refl _ (fun _ => False)) hb) (fun _ h => h) (below_step HB.out hb) (fun k_ e_ => .inr (Kd.R_base ho k_ e_.symm))); have n0 := Aside0.mk (below_step HB.out hb); have HVA := Aside0.mk (Kd.R_lower ho (Nat.zero_le _)); have HVN := Aside0.mk (show ∀ k_, (va : Value).ownBlock = some k_ → w.heap.size ≤ k_ from fun k_ e_ => Nat.le_trans (below_size HB.out) (Kd.R_base ho k_ e_)); clear HA HB ho hb; have HA := n1; have HB := n0; clear n0 n1)
    | ((with_reducible refine gate_builtin (b := .append) (xs := #[.tmp 29, .tmp 30]) rfl ?_); at_builtin; refine Kd.R_append_rows k32 (w0 := w) 0 rfl (.tmp 29) (.tmp 30) 22 32 (.agg #[(.int .i64 0), (.int .i64 0), (.int .u64 0), (.int .i64 0), (.int .i64 0), (.int .i64 0)]) 48 rfl Try.underlying22 info32 rfl (by decide) (by omega) va [] l0 _ _ _ (fun _ => True) (fun _ => False) rfl rfl HVA.out ?aR (fun _ _ h => h) (fun _ h => h.elim) (fun _ _ => trivial) (HB.out.mono (Nat.zero_le _)) (Nat.zero_le _) ?aL ?_; (case aR => exact (Kd.C_below HR0.out HB.out)); (case aL => have := HS0.out; simp; omega); intro vb wb ho hb0 hg hat; have hK := Kept.of_grown hg (Kept.refl _ (fun k_ => some k_ = (va : Value).ownBlock)) (fun k_ e_ => .inl e_.symm); have hB2 : Below w.heap.size w wb := (HB.out.grown hg (below_size HB.out) (fun k_ e_ => HVN.out k_ e_)); have n1 := Aside0.mk (HA.out.other (X' := fun k_ => some k_ = (vb : Value).ownBlock) hK (fun _ h => h) hB2 (fun k_ e_ => hat.elim (fun h => .inl (e_.trans h)) (fun ⟨b, h1, h2⟩ => .inr (by rw [h1] at e_; exact (Option.some.inj e_) ▸ h2)))); have HVB := Aside0.mk (Kd.R_tight rfl ho); have n0 := Aside0.mk hB2; clear HA HB ho hb0 hg hat hK hB2 HVA; have HA := n1; have HB := n0; clear n0 n1; (obtain ⟨Ab, cb, eb⟩ := Kd.R_slice HVB.out); subst eb))
          go_at_call 23
          have q := Ar.put (l := l0) HA.out (fun k_ e_ => Kd.R_lt HVB.out k_ e_.symm) (fun W hW => (Kd.R_reads' (Kd.R_kept HVB.out hW (fun k_ e_ hs => hs.2.2 e_))).2.2) (Kd.R_reads' HVB.out).2.1 HP1.out
          refine q.mono ?_
          clear q
          rintro e w5 ⟨rfl, hA, hB, hK⟩
          clear HA HB HVB HP1
          have HA := Aside0.mk hA
          have HB := Aside0.mk hB
          clear hA hB hK
          go_wp2_with (fail)
          go_at_call 24
          have q := backreachref06_Put.calls _ (fun _ => False) (.slice none 0 0) [] A0 c0 l0 L1 i1 e1 w _ HB.out (Kd.R_nil _ _ _ _ _) (fun W hW => C_keeps HR0.out HB.out hW (fun _ h => h.elim)) hc0 HP2.out
          refine q.mono ?_
          clear q
          rintro e w6 ⟨v8, rfl, ho, hB, hK⟩
          have n0 := Aside0.mk (HA.out.other (X' := fun k_ => some k_ = (v8 : Value).ownBlock) hK (fun _ h => h.elim) hB (fun k_ e_ => (ho.1 k_ e_.symm).elim (fun h => h.elim) .inr))
          have HV8 := Aside0.mk (Kd.R_tight rfl ho)
          clear HA HB HP2
          have HA := n0
          have HB := Aside0.mk hB
          clear n0 ho hB hK
          (obtain ⟨A8, c8, e8⟩ := Kd.R_slice HV8.out)
          subst e8
          go_wp2_with (fail)
          go_at_call 23
          have q := Ar.put (l := l1) HA.out (fun k_ e_ => Kd.R_lt HV8.out k_ e_.symm) (fun W hW => C_keeps HR1.out HB.out hW (fun k_ h => h.1)) hc1 HP3.out
          refine q.mono ?_
          clear q
          rintro e w7 ⟨rfl, hA, hB, hK⟩
          have n1 := Aside0.mk (Kd.R_kept HV8.out hK (fun k_ e_ hs => hs.2.2 e_))
          clear HA HB HV8 HP3
          have HA := Aside0.mk hA
          have HB := Aside0.mk hB
          have HV8 := n1
          clear hA hB hK n1
          go_wp2_with (fail)
          go_at_call 24
          have q := backreachref06_Put.calls _ (fun k_ => some k_ = (.slice A8 L1.length c8 : Value).ownBlock) (.slice A8 L1.length c8) L1 A1 c1 l1 L2 i2 e2 w _ HB.out HV8.out (fun W hW => C_keeps HR1.out HB.out hW (fun k_ e_ => Kd.R_base HV8.out k_ e_.symm)) hc1 HP4.out
          refine q.mono ?_
          clear q
          rintro e w9 ⟨v13, rfl, ho, hB, hK⟩
          have n0 := Aside0.mk (HA.out.other (X' := fun k_ => some k_ = (v13 : Value).ownBlock) hK (fun _ h => h) hB (fun k_ e_ => ho.1 k_ e_.symm))
          have HV13 := Aside0.mk (Kd.R_tight rfl ho)
          clear HA HB HV8 HP4
          have HA := n0
          have HB := Aside0.mk hB
          clear n0 ho hB hK
          (obtain ⟨A13, c13, e13⟩ := Kd.R_slice HV13.out)
          subst e13
          go_wp2_with (fail)
          go_at_call 13
          have q := Ar.len HA.out
          refine q.mono ?_
          clear q
          rintro e wd ⟨rfl, hD⟩
          have hb := hD.below
          clear hD
          have n0 := Aside0.mk (HA.out.below hb)
          have n1 := Aside0.mk (Kd.R_below HV13.out hb)
          have n2 := Aside0.mk (below_step HB.out hb)
          clear HA HV13 HB
          have HA := n0
          have HV13 := n1
          have HB := n2
          clear n0 n1 n2
          clear hb
          go_wp2
          go_ret
          exact ⟨rfl, HB.out⟩
end Go.Proofs.Ytkindfbbklkjdaa.P
