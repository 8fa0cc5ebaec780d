/- TermStays, by hand. -/
import Derived.Test.YtkindfbbklkjdaaGj
import Derived.Test.YtkindfbbklkjdaaPx19
import Derived.Test.YtkindfbbklkjdaaPureS
namespace Go.Proofs.Ytkindfbbklkjdaa.P
open Go.RowKit Go.Proofs.YtkindfbbklkjdaaW.PrintWords Go.Proofs.YtkindfbbklkjdaaW.PrintLast Go.Proofs.YtkindfbbklkjdaaW.PrintMore
set_option linter.unusedVariables false
set_option linter.unusedSimpArgs false

def fitS (l : List S32) : Bool := l.all okN
def backreachlaw06_TermStays.f (k : Nat) (l0 l1 : List S32) (a2_0 a2_1 a2_2 a2_3 a2_4 a2_5 : Int) : Option Bool := if fitS l0 && fitS l1 && okN ⟨a2_0, a2_1, a2_2, ⟨a2_3, a2_4, a2_5⟩⟩ then some true else none
set_option maxHeartbeats 8000000 in
set_option maxRecDepth 100000 in
theorem backreachlaw06_TermStays.calls (k : Nat) (A0 : Option Addr) (c0 : Nat) (l0 : List (S32)) (A1 : Option Addr) (c1 : Nat) (l1 : List (S32)) (a2_0 a2_1 a2_2 a2_3 a2_4 a2_5 : Int) (r : Bool) (w : World) (hr0 : Kd.C k32 w A0 l0.length l0) (hc0 : l0.length ≤ c0) (hr1 : Kd.C k32 w A1 l1.length l1) (hc1 : l1.length ≤ c1) (h : backreachlaw06_TermStays.f k l0 l1 a2_0 a2_1 a2_2 a2_3 a2_4 a2_5 = some r) :
    Calls Try.prog 8 #[.slice A0 l0.length c0, .slice A1 l1.length c1, .agg #[.int .i64 a2_0, .int .i64 a2_1, .int .u64 a2_2, .int .i64 a2_3, .int .i64 a2_4, .int .i64 a2_5]] w fun e w' => e = .returned (.bool r) ∧ Below w.heap.size w w' := by
  have hu32 := Try.underlying32
  unfold backreachlaw06_TermStays.f at h
  by_cases hf : (fitS l0 && fitS l1 && okN ⟨a2_0, a2_1, a2_2, ⟨a2_3, a2_4, a2_5⟩⟩) = true
  case neg => rw [if_neg hf] at h; cases h
  rw [if_pos hf] at h
  obtain rfl : true = r := Option.some.inj h
  clear h
  have HR0 := Aside0.mk hr0
  have HR1 := Aside0.mk hr1
  have HB := Aside0.mk (Below.refl w.heap.size w)
  clear hr0 hr1
  by_cases s0 : 100 < (l0.length : Int)
  · have s0b : decide (100 < (l0.length : Int)) = true := decide_eq_true s0
    have s0c : decide (100 < l0.length) = true := decide_eq_true (by omega)
    go_enter Try.func8, Try.ntmps8
    go_wp2_with (first
    | ((with_reducible refine gate_dst (N := 5) rfl ?_); (try (refine gate_guard (by rfl) ?_; dsimp only)); refine box_event ?hg (N := 5) ?hd (cs := #[.int .i64 a2_0, .int .i64 a2_1, .int .u64 a2_2, .int .i64 a2_3, .int .i64 a2_4, .int .i64 a2_5]) (t := 32) ?hr ?_; (case hd => rfl); (case hg => rfl); (case hr => first | (go_simp; done) | (go_simp; rfl)); intro gb hg wb hbox hb; have n0 := Aside0.mk (below_step HB.out hb); have BK := Aside0.mk hbox; clear HB hb hg hbox; have HB := n0; clear n0)
    | (go_at_call 9; refine (backreachlaw06_awake.calls true _ rfl).mono ?_; rintro e wa ⟨rfl, hb⟩; have n0 := Aside0.mk (below_step HB.out hb); have n1 := Aside0.mk (blk_below BK.out hb); clear HB BK hb; have HB := n0; have BK := n1; clear n0 n1))
    go_ret
    exact ⟨rfl, HB.out⟩
  · have s0b : decide (100 < (l0.length : Int)) = false := decide_eq_false s0
    have s0c : decide (100 < l0.length) = false := decide_eq_false (by omega)
    by_cases s1 : 100 < (l1.length : Int)
    · have s1b : decide (100 < (l1.length : Int)) = true := decide_eq_true s1
      have s1c : decide (100 < l1.length) = true := decide_eq_true (by omega)
      go_enter Try.func8, Try.ntmps8
      go_wp2_with (first
    | ((with_reducible refine gate_dst (N := 5) rfl ?_); (try (refine gate_guard (by rfl) ?_; dsimp only)); refine box_event ?hg (N := 5) ?hd (cs := #[.int .i64 a2_0, .int .i64 a2_1, .int .u64 a2_2, .int .i64 a2_3, .int .i64 a2_4, .int .i64 a2_5]) (t := 32) ?hr ?_; (case hd => rfl); (case hg => rfl); (case hr => first | (go_simp; done) | (go_simp; rfl)); intro gb hg wb hbox hb; have n0 := Aside0.mk (below_step HB.out hb); have BK := Aside0.mk hbox; clear HB hb hg hbox; have HB := n0; clear n0)
    | (go_at_call 9; refine (backreachlaw06_awake.calls true _ rfl).mono ?_; rintro e wa ⟨rfl, hb⟩; have n0 := Aside0.mk (below_step HB.out hb); have n1 := Aside0.mk (blk_below BK.out hb); clear HB BK hb; have HB := n0; have BK := n1; clear n0 n1))
      go_ret
      exact ⟨rfl, HB.out⟩
    · have s1b : decide (100 < (l1.length : Int)) = false := decide_eq_false s1
      have s1c : decide (100 < l1.length) = false := decide_eq_false (by omega)
      have hff : ((∀ a ∈ l0, okN a = true) ∧ (∀ a ∈ l1, okN a = true)) ∧ okN ⟨a2_0, a2_1, a2_2, ⟨a2_3, a2_4, a2_5⟩⟩ = true := by
        rw [Bool.and_eq_true, Bool.and_eq_true] at hf
        exact ⟨⟨List.all_eq_true.1 hf.1.1, List.all_eq_true.1 hf.1.2⟩, hf.2⟩
      obtain ⟨⟨hf0, hf1⟩, hfn⟩ := hff
      obtain ⟨m1, u1⟩ := Pure.put_term [] 0 l0 Pure.Good.nil hf0 (by omega)
      have g1 := Pure.put_good [] l0 Pure.Good.nil hf0
      have i1n := Pure.putA_in [] l0 Pure.Good.nil hf0
      have ag := fun ext => Pure.putA_again [] l0 ext Pure.Good.nil hf0
      generalize Pure.putA [] l0 = q1 at u1 g1 i1n ag
      obtain ⟨L1, i1, e1⟩ := q1
      obtain ⟨_, p1⟩ := u1.ex
      have HP1 := Aside0.mk p1
      clear p1 u1
      by_cases d1 : e1 = 0
      · subst d1
        obtain ⟨x0, x1⟩ := i1n rfl
        replace ag := fun ext => ag ext rfl
        obtain ⟨m2, u2⟩ := Pure.put_term L1 m1 l1 g1 hf1 (by omega)
        have g2 := Pure.put_good L1 l1 g1 hf1
        obtain ⟨ext2, y2⟩ := Pure.putA_ext L1 l1
        generalize Pure.putA L1 l1 = q2 at u2 g2 y2
        obtain ⟨L2, i2, e2⟩ := q2
        have u3 := Pure.make_term L2 ⟨a2_0, a2_1, a2_2, ⟨a2_3, a2_4, a2_5⟩⟩ hfn
        have g3 := Pure.makeN_good L2 ⟨a2_0, a2_1, a2_2, ⟨a2_3, a2_4, a2_5⟩⟩ g2 hfn
        obtain ⟨ext3, y3⟩ := Pure.makeN_ext L2 ⟨a2_0, a2_1, a2_2, ⟨a2_3, a2_4, a2_5⟩⟩
        generalize Pure.makeN L2 ⟨a2_0, a2_1, a2_2, ⟨a2_3, a2_4, a2_5⟩⟩ = q3 at u3 g3 y3
        obtain ⟨L3, i3, e3⟩ := q3
        have y23 : L3 = L1 ++ (ext2 ++ ext3) := by rw [← List.append_assoc, ← y2]; exact y3
        obtain ⟨m4, u4⟩ := Pure.put_term L3 (wrap64 (m2 + 1)) l0 g3 hf0 (by omega)
        have a4 : Pure.putA L3 l0 = (L3, i1, 0) := by rw [y23]; exact ag _
        rw [a4] at u4
        obtain ⟨t1, ht1⟩ : ∃ t, t = Pure.termN L1 i1 := ⟨_, rfl⟩
        have ht3 : Pure.termN L3 i1 = t1 := by rw [y23, ht1]; exact Pure.termN_ext L1 _ i1 x0 x1
        have z1 : t1.length ≤ L1.length := by rw [ht1]; exact Pure.termN_len _ _
        have zs : L1.length ≤ 65536 := g1.size
        have zp : 0 < t1.length := by rw [ht1]; exact Pure.termN_some L1 i1 x0 x1
        have zl : L1.length ≤ L3.length := by rw [y23]; simp
        obtain ⟨_, p2⟩ := u2.ex
        obtain ⟨_, p3⟩ := u3.ex
        obtain ⟨_, p4⟩ := u4.ex
        obtain ⟨_, a1⟩ := (Pure.term_term L1 g1 i1).ex
        obtain ⟨_, a3⟩ := (Pure.term_term L3 g3 i1).ex
        obtain ⟨_, se⟩ := (Pure.same_self t1 (by omega)).ex
        rw [← ht1] at a1
        rw [ht3] at a3
        have HP2 := Aside0.mk p2
        have HP3 := Aside0.mk p3
        have HP4 := Aside0.mk p4
        have HT1 := Aside0.mk a1
        have HT3 := Aside0.mk a3
        have HE := Aside0.mk se
        have e0 : ((0 : Int) != 0) = false := rfl
        have b1 : decide ((L1.length : Int) ≤ (L3.length : Int)) = true := decide_eq_true (by omega)
        have b2 : decide (L1.length ≤ L3.length) = true := decide_eq_true zl
        have b3 : decide (0 < (t1.length : Int)) = true := decide_eq_true (by omega)
        have b4 : decide (0 < t1.length) = true := decide_eq_true zp
        have HS0 := Aside0.mk s0
        have HS1 := Aside0.mk s1
        clear s0 s1 ag x0 x1 u2 g2 y2 u3 g3 y3 y23 u4 a4 ht1 ht3 z1 zs zp zl p2 p3 p4 a1 a3 se hf hf0 hf1 hfn g1 i1n
        go_enter Try.func8, Try.ntmps8
        go_wp2_with (first
    | ((with_reducible refine gate_dst (N := 5) rfl ?_); (try (refine gate_guard (by rfl) ?_; dsimp only)); refine box_event ?hg (N := 5) ?hd (cs := #[.int .i64 a2_0, .int .i64 a2_1, .int .u64 a2_2, .int .i64 a2_3, .int .i64 a2_4, .int .i64 a2_5]) (t := 32) ?hr ?_; (case hd => rfl); (case hg => rfl); (case hr => first | (go_simp; done) | (go_simp; rfl)); intro gb hg wb hbox hb; have n0 := Aside0.mk (below_step HB.out hb); have BK := Aside0.mk hbox; clear HB hb hg hbox; have HB := n0; clear n0)
    | (go_at_call 9; refine (backreachlaw06_awake.calls true _ rfl).mono ?_; rintro e wa ⟨rfl, hb⟩; have n0 := Aside0.mk (below_step HB.out hb); have n1 := Aside0.mk (blk_below BK.out hb); clear HB BK hb; have HB := n0; have BK := n1; clear n0 n1))
        go_at_call 10
        have q := Ar.new w _ HB.out (fun k_ => k_ = gb) (fun k_ e_ => by subst e_; exact blk_lt BK.out)
        refine q.mono ?_
        clear q
        rintro e wn ⟨g, rfl, hA, hb⟩
        have n0 := Aside0.mk (below_step HB.out hb)
        have n1 := Aside0.mk (blk_below BK.out hb)
        have HA := Aside0.mk hA
        clear HB BK hb hA
        have HB := n0
        have BK := n1
        clear n0 n1
        go_wp2_with (fail)
        go_at_call 23
        have q := Ar.put (l := l0) HA.out (fun k_ e_ => by subst e_; exact blk_lt BK.out) (fun W hW => C_keeps HR0.out HB.out hW (fun k h => h.1)) hc0 HP1.out
        refine q.mono ?_
        clear q
        rintro e w5 ⟨rfl, hA, hB, hK⟩
        have n1 := Aside0.mk ((hK.2 gb (blk_lt BK.out) (fun hs => hs.2.2 rfl)).trans BK.out)
        clear HA HB BK
        have HA := Aside0.mk hA
        have HB := Aside0.mk hB
        have BK := n1
        clear hA hB hK n1
        go_wp2_with (fail)
        go_at_call 17
        have q := Ar.term HA.out HT1.out
        refine q.mono ?_
        clear q
        rintro e wt ⟨vt, rfl, hb, hR⟩
        (obtain ⟨At, ct, et⟩ := Kd.R_slice hR)
        subst et
        have n0 := Aside0.mk (below_step HB.out hb)
        have n1 := Aside0.mk (blk_below BK.out hb)
        have n3 := Aside0.mk (Ar.other (X' := fun k_ => k_ = gb ∨ some k_ = (.slice At t1.length ct : Value).ownBlock) HA.out (Kept.below (Kept.refl _ (fun _ => False)) hb) (fun _ h => h.elim) n0.out (fun k_ e_ => e_.elim .inl (fun e_ => .inr (Kd.R_base hR k_ e_.symm))))
        have HV := Aside0.mk (Kd.R_tight rfl (Kd.R_lower hR (Nat.zero_le _)))
        clear HA HB BK hb hR
        have HB := n0
        have BK := n1
        have HA := n3
        clear n0 n1 n3
        go_wp2_with (fail)
        go_at_call 13
        have q := Ar.len HA.out
        refine q.mono ?_
        clear q
        rintro e wd ⟨rfl, hD⟩
        have hb := hD.below
        clear hD
        have n0 := Aside0.mk (HA.out.below hb)
        have n1 := Aside0.mk (Kd.R_below HV.out hb)
        have n2 := Aside0.mk (below_step HB.out hb)
        have n3 := Aside0.mk (blk_below BK.out hb)
        clear HA HV HB BK
        have HA := n0
        have HV := n1
        have HB := n2
        have BK := n3
        clear n0 n1 n2 n3
        clear hb
        go_wp2_with (fail)
        go_at_call 23
        have q := Ar.put (l := l1) HA.out (fun k_ e_ => e_.elim (fun e_ => by subst e_; exact blk_lt BK.out) (fun e_ => Kd.R_lt HV.out k_ e_.symm)) (fun W hW => C_keeps HR1.out HB.out hW (fun k h => h.1)) hc1 HP2.out
        refine q.mono ?_
        clear q
        rintro e w6 ⟨rfl, hA, hB, hK⟩
        have n1 := Aside0.mk ((hK.2 gb (blk_lt BK.out) (fun hs => hs.2.2 (.inl rfl))).trans BK.out)
        have n2 := Aside0.mk (Kd.R_kept HV.out hK (fun k_ e_ hs => hs.2.2 (.inr e_)))
        clear HA HB BK HV
        have HA := Aside0.mk hA
        have HB := Aside0.mk hB
        have BK := n1
        have HV := n2
        clear n2
        clear hA hB hK n1
        have k0 := (blk_cell BK.out 0).trans rfl
        have k1_ := (blk_cell BK.out 1).trans rfl
        have k2 := (blk_cell BK.out 2).trans rfl
        have k3 := (blk_cell BK.out 3).trans rfl
        have k4 := (blk_cell BK.out 4).trans rfl
        have k5 := (blk_cell BK.out 5).trans rfl
        go_wp2_with (fail)
        go_at_call 11
        have q := Ar.make (n := ⟨a2_0, a2_1, a2_2, ⟨a2_3, a2_4, a2_5⟩⟩) HA.out (fun k_ e_ => e_.elim (fun e_ => by subst e_; exact blk_lt BK.out) (fun e_ => Kd.R_lt HV.out k_ e_.symm)) HP3.out
        refine q.mono ?_
        clear q
        rintro e w7 ⟨rfl, hA, hB, hK⟩
        have n1 := Aside0.mk ((hK.2 gb (blk_lt BK.out) (fun hs => hs.2.2 (.inl rfl))).trans BK.out)
        have n2 := Aside0.mk (Kd.R_kept HV.out hK (fun k_ e_ hs => hs.2.2 (.inr e_)))
        clear HA HB BK HV k0 k1_ k2 k3 k4 k5
        have HA := Aside0.mk hA
        have HB := Aside0.mk hB
        have BK := n1
        have HV := n2
        clear hA hB hK n1 n2
        go_wp2_with (fail)
        go_at_call 23
        have q := Ar.put (l := l0) HA.out (fun k_ e_ => e_.elim (fun e_ => by subst e_; exact blk_lt BK.out) (fun e_ => Kd.R_lt HV.out k_ e_.symm)) (fun W hW => C_keeps HR0.out HB.out hW (fun k h => h.1)) hc0 HP4.out
        refine q.mono ?_
        clear q
        rintro e w8 ⟨rfl, hA, hB, hK⟩
        have n1 := Aside0.mk ((hK.2 gb (blk_lt BK.out) (fun hs => hs.2.2 (.inl rfl))).trans BK.out)
        have n2 := Aside0.mk (Kd.R_kept HV.out hK (fun k_ e_ hs => hs.2.2 (.inr e_)))
        clear HA HB BK HV
        have HA := Aside0.mk hA
        have HB := Aside0.mk hB
        have BK := n1
        have HV := n2
        clear n2
        clear hA hB hK n1
        go_wp2_with (fail)
        go_at_call 17
        have q := Ar.term HA.out HT3.out
        refine q.mono ?_
        clear q
        rintro e wu ⟨vu, rfl, hb, hR⟩
        (obtain ⟨Au, cu, eu⟩ := Kd.R_slice hR)
        subst eu
        have n0 := Aside0.mk (HA.out.below hb)
        have n1 := Aside0.mk (Kd.R_below HV.out hb)
        have n2 := Aside0.mk (below_step HB.out hb)
        have n3 := Aside0.mk (blk_below BK.out hb)
        clear HA HV HB BK
        have HA := n0
        have HV := n1
        have HB := n2
        have BK := n3
        clear n0 n1 n2 n3
        have HV2 := Aside0.mk hR
        clear hR
        clear hb
        go_wp2_with (fail)
        go_at_call 16
        have q := backreachref06_Same.calls _ _ _ t1 _ _ t1 true _ (Kd.R_reads' HV2.out).2.2 (Kd.R_reads' HV2.out).2.1 (Kd.R_reads' HV.out).2.2 (Kd.R_reads' HV.out).2.1 HE.out
        refine q.mono ?_
        clear q
        rintro e ws ⟨rfl, hd⟩
        have hb := hd.below
        clear hd
        have n0 := Aside0.mk (HA.out.below hb)
        have n1 := Aside0.mk (Kd.R_below HV.out hb)
        have n2 := Aside0.mk (below_step HB.out hb)
        have n3 := Aside0.mk (blk_below BK.out hb)
        have n4 := Aside0.mk (Kd.R_below HV2.out hb)
        clear HV2
        have HV2 := n4
        clear n4
        clear HA HV HB BK
        have HA := n0
        have HV := n1
        have HB := n2
        have BK := n3
        clear n0 n1 n2 n3
        clear hb
        go_wp2_with (fail)
        go_at_call 13
        have q := Ar.len HA.out
        refine q.mono ?_
        clear q
        rintro e wd2 ⟨rfl, hD⟩
        have hb := hD.below
        clear hD
        have n0 := Aside0.mk (HA.out.below hb)
        have n1 := Aside0.mk (Kd.R_below HV.out hb)
        have n2 := Aside0.mk (below_step HB.out hb)
        have n3 := Aside0.mk (blk_below BK.out hb)
        clear HA HV HB BK
        have HA := n0
        have HV := n1
        have HB := n2
        have BK := n3
        clear n0 n1 n2 n3
        clear hb
        go_wp2
        go_ret
        exact ⟨rfl, HB.out⟩
      · have d1b : (e1 != 0) = true := bne_iff_ne.mpr d1
        have HS0 := Aside0.mk s0
        have HS1 := Aside0.mk s1
        clear s0 s1 d1 ag g1 i1n hf hf0 hf1 hfn
        go_enter Try.func8, Try.ntmps8
        go_wp2_with (first
    | ((with_reducible refine gate_dst (N := 5) rfl ?_); (try (refine gate_guard (by rfl) ?_; dsimp only)); refine box_event ?hg (N := 5) ?hd (cs := #[.int .i64 a2_0, .int .i64 a2_1, .int .u64 a2_2, .int .i64 a2_3, .int .i64 a2_4, .int .i64 a2_5]) (t := 32) ?hr ?_; (case hd => rfl); (case hg => rfl); (case hr => first | (go_simp; done) | (go_simp; rfl)); intro gb hg wb hbox hb; have n0 := Aside0.mk (below_step HB.out hb); have BK := Aside0.mk hbox; clear HB hb hg hbox; have HB := n0; clear n0)
    | (go_at_call 9; refine (backreachlaw06_awake.calls true _ rfl).mono ?_; rintro e wa ⟨rfl, hb⟩; have n0 := Aside0.mk (below_step HB.out hb); have n1 := Aside0.mk (blk_below BK.out hb); clear HB BK hb; have HB := n0; have BK := n1; clear n0 n1))
        go_at_call 10
        have q := Ar.new w _ HB.out (fun k_ => k_ = gb) (fun k_ e_ => by subst e_; exact blk_lt BK.out)
        refine q.mono ?_
        clear q
        rintro e wn ⟨g, rfl, hA, hb⟩
        have n0 := Aside0.mk (below_step HB.out hb)
        have n1 := Aside0.mk (blk_below BK.out hb)
        have HA := Aside0.mk hA
        clear HB BK hb hA
        have HB := n0
        have BK := n1
        clear n0 n1
        go_wp2_with (fail)
        go_at_call 23
        have q := Ar.put (l := l0) HA.out (fun k_ e_ => by subst e_; exact blk_lt BK.out) (fun W hW => C_keeps HR0.out HB.out hW (fun k h => h.1)) hc0 HP1.out
        refine q.mono ?_
        clear q
        rintro e w5 ⟨rfl, hA, hB, hK⟩
        have n1 := Aside0.mk ((hK.2 gb (blk_lt BK.out) (fun hs => hs.2.2 rfl)).trans BK.out)
        clear HA HB BK
        have HA := Aside0.mk hA
        have HB := Aside0.mk hB
        have BK := n1
        clear hA hB hK n1
        go_wp2
        go_ret
        exact ⟨rfl, HB.out⟩
end Go.Proofs.Ytkindfbbklkjdaa.P
