/- TermMakes, by hand. -/
import Derived.Test.YtkindfbbklkjdaaGj
import Derived.Test.YtkindfbbklkjdaaGb
import Derived.Test.YtkindfbbklkjdaaPx17
import Derived.Test.YtkindfbbklkjdaaPx19
import Derived.Test.YtkindfbbklkjdaaPx21
import Derived.Test.YtkindfbbklkjdaaPureT
namespace Go.Proofs.Ytkindfbbklkjdaa.P
open Go.RowKit Go.Proofs.YtkindfbbklkjdaaW.PrintWords Go.Proofs.YtkindfbbklkjdaaW.PrintLast Go.Proofs.YtkindfbbklkjdaaW.PrintMore
set_option linter.unusedVariables false
set_option linter.unusedSimpArgs false

theorem makeN_len (L : List S32) (n : S32) : (Pure.makeN L n).1.length ≤ L.length + 1 := by
  unfold Pure.makeN
  split
  · simp
  · split
    · split <;> simp
    · simp
theorem termN_out (L : List S32) (p : Int) (h : p < 0 ∨ p ≥ L.length) : Pure.termN L p = [] := by unfold Pure.termN; rw [if_pos h]
theorem Ar.at_in {w0 w : World} {g : Nat} {L : List S32} {m : Int} {X : Nat → Prop} (h : Ar w0 w g L m X) (i : Int) (p : 0 ≤ i) (q : i < L.length) : Calls Try.prog 15 #[.pointer (some ⟨g, 0, none⟩), .int .i64 i] w fun e w' => e = .returned (.tuple #[.agg #[.int .i64 (rd_T32 L i).f0, .int .i64 (rd_T32 L i).f1, .int .u64 (rd_T32 L i).f2, .int .i64 (rd_T32 L i).f3.f0, .int .i64 (rd_T32 L i).f3.f1, .int .i64 (rd_T32 L i).f3.f2], .bool true]) ∧ Below w.heap.size w w' := by
  obtain ⟨v, bm, hA, hB⟩ := h
  exact term_Arena_At.calls_in _ _ g L m v bm i w hA p q
theorem Ar.at_out {w0 w : World} {g : Nat} {L : List S32} {m : Int} {X : Nat → Prop} (h : Ar w0 w g L m X) (i : Int) (p : ¬ (0 ≤ i ∧ i < L.length)) : Calls Try.prog 15 #[.pointer (some ⟨g, 0, none⟩), .int .i64 i] w fun e w' => e = .returned (.tuple #[.agg #[.int .i64 0, .int .i64 0, .int .u64 0, .int .i64 0, .int .i64 0, .int .i64 0], .bool false]) ∧ Below w.heap.size w w' := by
  obtain ⟨v, bm, hA, hB⟩ := h
  exact term_Arena_At.calls_out _ _ g L m v bm i w hA p

theorem Ar.drew {w0 w : World} {g : Nat} {L : List S32} {m : Int} {X : Nat → Prop} (h : Ar w0 w g L m X) : Ar w0 w.drew g L m X := h.below (below_drew1 (Below.refl _ _))
def fitM (l : List S32) : Bool := l.all okN
def backreachlaw06_TermMakes.f (k : Nat) (l0 : List S32) : Option Bool := if fitM l0 then some true else none
attribute [local go_sem high] eqA32
set_option maxHeartbeats 8000000 in
set_option maxRecDepth 100000 in
theorem backreachlaw06_TermMakes.calls (k : Nat) (A0 : Option Addr) (c0 : Nat) (l0 : List (S32)) (r : Bool) (w : World) (hr0 : Kd.C k32 w A0 l0.length l0) (hc0 : l0.length ≤ c0) (h : backreachlaw06_TermMakes.f k l0 = some r) :
    Calls Try.prog 3 #[.slice A0 l0.length c0] w fun e w' => e = .returned (.bool r) ∧ Below w.heap.size w w' := by
  have hu32 := Try.underlying32
  unfold backreachlaw06_TermMakes.f at h
  by_cases hf : fitM l0 = true
  case neg => rw [if_neg hf] at h; cases h
  rw [if_pos hf] at h
  obtain rfl : true = r := Option.some.inj h
  clear h
  have HF := Aside0.mk (show ∀ a ∈ l0, okN a = true from List.all_eq_true.1 hf)
  have HR0 := Aside0.mk hr0
  have HB := Aside0.mk (Below.refl w.heap.size w)
  clear hr0 hf
  by_cases s0 : 60 < (l0.length : Int)
  · have s0b : decide (60 < (l0.length : Int)) = true := decide_eq_true s0
    have s0c : decide (60 < l0.length) = true := decide_eq_true (by omega)
    go_enter Try.func3, Try.ntmps3
    go_wp2_with (go_at_call 9; refine (backreachlaw06_awake.calls true _ rfl).mono ?_; rintro e wa ⟨rfl, hb⟩; have n0 := Aside0.mk (below_step HB.out hb); clear HB hb; have HB := n0; clear n0)
    go_ret
    exact ⟨rfl, HB.out⟩
  · have s0b : decide (60 < (l0.length : Int)) = false := decide_eq_false s0
    have s0c : decide (60 < l0.length) = false := decide_eq_false (by omega)
    have s0' : (l0.length : Int) ≤ 60 := by omega
    have HS := Aside0.mk s0'
    clear s0 s0'
    go_enter Try.func3, Try.ntmps3
    go_wp2_with (go_at_call 9; refine (backreachlaw06_awake.calls true _ rfl).mono ?_; rintro e wa ⟨rfl, hb⟩; have n0 := Aside0.mk (below_step HB.out hb); clear HB hb; have HB := n0; clear n0)
    go_at_call 10
    have q := Ar.new w _ HB.out (fun k_ => False) (fun k_ e_ => e_.elim)
    refine q.mono ?_
    clear q
    rintro e wn ⟨g, rfl, hA, hb⟩
    have n0 := Aside0.mk (below_step HB.out hb)
    have HA := Aside0.mk hA
    clear HB hb hA
    have HB := n0
    clear n0
    go_wp2_with (first | ((with_reducible refine gate_dst (N := 24) rfl ?_); refine Kd.R_lit k32 _ 32 ?hg (N := 24) ?hd (xs := ([] : List (S32))) (inner := []) (ok := fun _ => True) (okp := fun _ => True) ?hr ?hp (fun _ hk => hk) trivial (Below.refl _ _) (Nat.le_refl _) (by simp) ?_; (case hd => rfl); (case hg => rfl); (case hr => first | (go_simp; done) | (go_simp; rfl)); (case hp => exact (Reps.none _ _)); intro va wl ho hb hg_ hnew_; clear hg_ hnew_; (obtain ⟨Ab, cb, eb⟩ := Kd.R_slice ho); subst eb; have n1 := Aside0.mk (HA.out.other (X' := fun k_ => some k_ = (.slice Ab ([] : List S32).length cb : Value).ownBlock) (Kept.below (Kept.refl _ (fun _ => False)) hb) (fun _ h => h) (below_step HB.out hb) (fun k_ e_ => .inr (Kd.R_base ho k_ e_.symm))); have n0 := Aside0.mk (below_step HB.out hb); have HV := Aside0.mk (Kd.R_lower (Kd.R_tight rfl ho) (below_size HB.out)); clear HA HB ho hb; have HA := n1; have HB := n0; clear n0 n1))
    go_wp2
    go_loopw [4, 5] (fun v4 v5 w' => ∃ (i1 : Int) (L : List S32) (A : Option Addr) (c : Nat), v4 = .slice A L.length c ∧ v5 = .int .i64 i1 ∧ Aside0 (0 ≤ i1 ∧ i1 ≤ l0.length) ∧ Aside0 (Pure.Good L ∧ (L.length : Int) ≤ i1) ∧ Aside0 (Ar w w' g L i1 (fun k_ => some k_ = (.slice A L.length c : Value).ownBlock)) ∧ Aside0 (Kd.R k32 32 w' w.heap.size (fun k_ => some k_ = (.slice A L.length c : Value).ownBlock) (.slice A L.length c) L) ∧ Aside0 (Below w.heap.size w w')) (fun _ v5 _ => ((l0.length : Int) - intOf v5).toNat)
    case atStart => exact ⟨0, [], Ab, cb, rfl, rfl, ⟨by omega, by omega⟩, ⟨Pure.Good.nil, by simp⟩, HA, HV, HB⟩
    case round =>
      clear HA HV HB
      obtain ⟨i1, L, A, c, rfl, rfl, HI, HG, HA, HV, HB⟩ := hrel
      by_cases c1 : i1 < (l0.length : Int)
      · have c1b : decide (i1 < (l0.length : Int)) = true := decide_eq_true c1
        have p0 := eq_true HI.out.1
        have p1 := eq_true c1
        have hw1 : wrap64 (i1 + 1) = i1 + 1 := by have := HI.out.1; have := HS.out; unfold wrap64; omega
        have hnm := Pure.rd_mem l0 i1 HI.out.1 c1
        have hok := HF.out _ hnm
        have u1 := Pure.make_term L (rd_T32 l0 i1) hok
        have u2 := Pure.make_ref L (rd_T32 l0 i1) HG.out.1.wide HG.out.1.size
        have g1 := Pure.makeN_good L (rd_T32 l0 i1) HG.out.1 hok
        have ln := makeN_len L (rd_T32 l0 i1)
        generalize Pure.makeN L (rd_T32 l0 i1) = qq at u1 u2 g1 ln
        obtain ⟨L1, q1, q2⟩ := qq
        obtain ⟨_, p_1⟩ := u1.ex
        obtain ⟨_, p_2⟩ := u2.ex
        have HM1 := Aside0.mk p_1
        have HM2 := Aside0.mk p_2
        have HG1 := Aside0.mk (show Pure.Good L1 ∧ (L1.length : Int) ≤ i1 + 1 from ⟨g1, by have := HG.out.2; have ln' : L1.length ≤ L.length + 1 := ln; omega⟩)
        have HI1 := Aside0.mk (show 0 ≤ i1 + 1 ∧ i1 + 1 ≤ (l0.length : Int) from ⟨by have := HI.out.1; omega, by omega⟩)
        have HW1 := Aside0.mk hw1
        have HC1 := Aside0.mk c1
        obtain ⟨ad, e, hx0, hx1, hx2, hx3, hx4, hx5⟩ := at_T32 (Kd.C_below HR0.out HB.out) i1 HI.out.1 c1
        cases e
        clear hnm hok u1 u2 g1 ln p_1 p_2 HG HI c1
        clear hw1
        go_wp2_with (fail)
        go_at_call 11
        have q := Ar.make (n := rd_T32 l0 i1) HA.out (fun k_ e_ => Kd.R_lt HV.out k_ e_.symm) HM1.out
        refine q.mono ?_
        clear q
        rintro e w5 ⟨rfl, hA, hB, hK⟩
        have n2 := Aside0.mk (Kd.R_kept HV.out hK (fun k_ e_ hs => hs.2.2 e_))
        clear HA HB HV hx0 hx1 hx2 hx3 hx4 hx5
        have HA := Aside0.mk hA
        have HB := Aside0.mk hB
        have HV := n2
        clear hA hB hK n2
        (obtain ⟨ad', e', hx0, hx1, hx2, hx3, hx4, hx5⟩ := at_T32 (Kd.C_below HR0.out HB.out) i1 (of_eq_true p0) (of_eq_true p1))
        cases e'
        go_wp2_with (fail)
        go_at_call 12
        have q := backreachref06_Make.calls _ (fun k_ => some k_ = (.slice A L.length c : Value).ownBlock) (.slice A L.length c) L (rd_T32 l0 i1).f0 (rd_T32 l0 i1).f1 (rd_T32 l0 i1).f2 (rd_T32 l0 i1).f3.f0 (rd_T32 l0 i1).f3.f1 (rd_T32 l0 i1).f3.f2 L1 q1 q2 w _ HB.out HV.out HM2.out
        refine q.mono ?_
        clear q
        rintro e w6 ⟨v8, rfl, ho, hB, hK⟩
        have n0 := Aside0.mk (HA.out.other (X' := fun k_ => some k_ = (v8 : Value).ownBlock) hK (fun _ h => h) hB (fun k_ e_ => ho.1 k_ e_.symm))
        have n1 := Aside0.mk (Kd.R_tight rfl ho)
        clear HA HB HV hx0 hx1 hx2 hx3 hx4 hx5
        have HA := n0
        have HB := Aside0.mk hB
        have HV := n1
        clear n0 n1 ho hB hK
        (obtain ⟨A8, c8, e8⟩ := Kd.R_slice HV.out)
        subst e8
        go_wp2_with (fail)
        go_at_call 13
        have q := Ar.len HA.out
        refine q.mono ?_
        clear q
        rintro e wd ⟨rfl, hD⟩
        have hb := hD.below
        clear hD
        have n0 := Aside0.mk (HA.out.below hb)
        have n2 := Aside0.mk (below_step HB.out hb)
        have m0 := Aside0.mk (Kd.R_below HV.out hb)
        clear HA HB HV
        have HA := n0
        have HB := n2
        clear n0 n2
        have HV := m0
        clear m0
        clear hb
        go_wp2_with (fail)
        go_at_call 14
        have q := Ar.asked HA.out
        refine q.mono ?_
        clear q
        rintro e we ⟨rfl, hD⟩
        have hb := hD.below
        clear hD
        have n0 := Aside0.mk (HA.out.below hb)
        have n2 := Aside0.mk (below_step HB.out hb)
        have m0 := Aside0.mk (Kd.R_below HV.out hb)
        clear HA HB HV
        have HA := n0
        have HB := n2
        clear n0 n2
        have HV := m0
        clear m0
        clear hb
        go_wp2
        have ha := HA.out
        have hw1 := HW1.out
        rw [hw1] at ha
        refine ⟨⟨i1 + 1, L1, A8, c8, rfl, (by rw [hw1]), HI1, HG1, ⟨ha⟩, HV, HB⟩, ?_⟩
        rw [hw1]
        have := HC1.out
        show ((l0.length : Int) - (i1 + 1)).toNat < ((l0.length : Int) - i1).toNat
        omega
      · have c1b : decide (i1 < (l0.length : Int)) = false := decide_eq_false c1
        have HLn := Aside0.mk (show L.length ≤ 60 by have := HG.out.2; have := HI.out; have := HS.out; omega)
        clear c1 HI
        obtain ⟨m1, hm1⟩ : ∃ m, m = i1 := ⟨_, rfl⟩
        have HA' := HA.out
        rw [← hm1] at HA'
        have n0 := Aside0.mk HA'
        clear HA HA' hm1
        have HA := n0
        clear n0
        go_wp2
        go_loopw [11] (fun v11 w' => ∃ (i1 : Int), v11 = .int .i64 i1 ∧ Aside0 (0 ≤ i1 ∧ i1 ≤ L.length) ∧ Aside0 (Ar w w' g L m1 (fun k_ => some k_ = (.slice A L.length c : Value).ownBlock)) ∧ Aside0 (Kd.R k32 32 w' w.heap.size (fun k_ => some k_ = (.slice A L.length c : Value).ownBlock) (.slice A L.length c) L) ∧ Aside0 (Below w.heap.size w w')) (fun v11 _ => ((L.length : Int) - intOf v11).toNat)
        case atStart => exact ⟨0, rfl, ⟨by omega, by omega⟩, HA, HV, HB⟩
        case round =>
          clear HA HV HB c1b
          obtain ⟨i1, rfl, HI, HA, HV, HB⟩ := hrel
          by_cases c1 : i1 < (L.length : Int)
          · have c1b : decide (i1 < (L.length : Int)) = true := decide_eq_true c1
            have p0 := eq_true HI.out.1
            have p1 := eq_true c1
            have HW1 := Aside0.mk (show wrap64 (i1 + 1) = i1 + 1 by have := HI.out.1; have := HLn.out; unfold wrap64; omega)
            have HI1 := Aside0.mk (show 0 ≤ i1 + 1 ∧ i1 + 1 ≤ (L.length : Int) from ⟨by have := HI.out.1; omega, by omega⟩)
            have HC1 := Aside0.mk c1
            obtain ⟨t, ht⟩ : ∃ t, t = Pure.termN L i1 := ⟨_, rfl⟩
            have tl : t.length ≤ L.length := by rw [ht]; exact Pure.termN_len L i1
            obtain ⟨_, t1⟩ := (Pure.term_term L HG.out.1 i1).ex
            obtain ⟨_, t2⟩ := (Pure.term_ref L HG.out.1 i1).ex
            obtain ⟨_, t3⟩ := (Pure.same_self t (by have := HLn.out; omega)).ex
            rw [← ht] at t1 t2
            have HT := Aside0.mk t1
            have HU := Aside0.mk t2
            have HE := Aside0.mk t3
            clear t1 t2 t3 ht tl HI c1
            go_wp2_with (first
                | (go_at_call 15; have q := Ar.at_in HA.out i1 (of_eq_true p0) (of_eq_true p1); refine q.mono ?_; clear q; rintro e wt ⟨rfl, hb⟩; have n0 := Aside0.mk (HA.out.below hb); have n2 := Aside0.mk (below_step HB.out hb); have m0 := Aside0.mk (Kd.R_below HV.out hb); clear HA HB HV; have HA := n0; have HB := n2; clear n0 n2; have HV := m0; clear m0; clear hb)
                | ((with_reducible refine gate_dst (N := 12) rfl ?_); (try (refine gate_guard (by rfl) ?_; dsimp only)); refine box_event ?hg (N := 12) ?hd (cs := #[.int .i64 0, .int .i64 0, .int .u64 0, .int .i64 0, .int .i64 0, .int .i64 0]) (t := 32) ?hr ?_; (case hd => rfl); (case hg => rfl); (case hr => first | (go_simp; done) | (go_simp; rfl)); intro gb hg wx hbox hb; have HBX := Aside0.mk hb; have BKX := Aside0.mk hbox; have HGL := Aside0.mk (Nat.le_of_eq hg.symm); have k0 := (blk_cell hbox 0).trans rfl; have k1_ := (blk_cell hbox 1).trans rfl; have k2 := (blk_cell hbox 2).trans rfl; have k3 := (blk_cell hbox 3).trans rfl; have k4 := (blk_cell hbox 4).trans rfl; have k5 := (blk_cell hbox 5).trans rfl; have f0 := blk_frozen hbox 0; have f1 := blk_frozen hbox 1; have f2 := blk_frozen hbox 2; have f3 := blk_frozen hbox 3; have f4 := blk_frozen hbox 4; have f5 := blk_frozen hbox 5; clear hg hb hbox)
                | ((with_reducible refine gate_store (t := 32) (p := 12) rfl ?_); refine store_event (t := 32) (p := 12) (v := ?vo12) (w1 := ((((((wx.setCell ⟨gb, 0, none⟩ (.int .i64 (rd_T32 L i1).f0)).setCell ⟨gb, 1, none⟩ (.int .i64 (rd_T32 L i1).f1)).setCell ⟨gb, 2, none⟩ (.int .u64 (rd_T32 L i1).f2)).setCell ⟨gb, 3, none⟩ (.int .i64 (rd_T32 L i1).f3.f0)).setCell ⟨gb, 4, none⟩ (.int .i64 (rd_T32 L i1).f3.f1)).setCell ⟨gb, 5, none⟩ (.int .i64 (rd_T32 L i1).f3.f2))) ?hg ?ho ?hn ?hr ?_; (case ho => rfl); (case hg => rfl); (case hn => rfl); (case hr => first | (go_simp; done) | (go_simp; rfl)); intro w3 hw; have hb : Below _ _ w3 := (by rw [hw]; exact below_six HBX.out HGL.out); have hbk : w3.heap[gb]? = some (.cells #[.int .i64 (rd_T32 L i1).f0, .int .i64 (rd_T32 L i1).f1, .int .u64 (rd_T32 L i1).f2, .int .i64 (rd_T32 L i1).f3.f0, .int .i64 (rd_T32 L i1).f3.f1, .int .i64 (rd_T32 L i1).f3.f2] 32 (0, 0)) := (by rw [hw]; exact blk_six BKX.out); have n0 := Aside0.mk (HA.out.below hb); have n2 := Aside0.mk (below_step HB.out hb); have m0 := Aside0.mk (Kd.R_below HV.out hb); clear HA HB HV; have HA := n0; have HB := n2; clear n0 n2; have HV := m0; clear m0; clear HBX BKX HGL k0 k1_ k2 k3 k4 k5 f0 f1 f2 f3 f4 f5 hw hb; have BK := Aside0.mk hbk; clear hbk))
            go_wp2
            have q13 := Ar.term HA.out.drew HT.out
            obtain ⟨ad, e, hx0, hx1, hx2, hx3, hx4, hx5⟩ := at_T32 (Kd.R_reads' HV.out).2.2 i1 (of_eq_true p0) (of_eq_true p1)
            cases e
            have n0 := Aside0.mk HA.out.drew
            have n1 := Aside0.mk (Kd.R_drew HV.out)
            have n2 := Aside0.mk (below_drew1 HB.out)
            have n3 := Aside0.mk (blk_drew BK.out)
            clear HA HV HB BK
            have HA := n0
            have HV := n1
            have HB := n2
            have BK := n3
            clear n0 n1 n2 n3
            refine start_ (n := 20) (S := fun w' => w'.cell? ⟨gb, 0, none⟩ = some (.int .i64 (rd_T32 L i1).f0) ∧ w'.cell? ⟨gb, 1, none⟩ = some (.int .i64 (rd_T32 L i1).f1) ∧ w'.cell? ⟨gb, 2, none⟩ = some (.int .u64 (rd_T32 L i1).f2) ∧ w'.cell? ⟨gb, 3, none⟩ = some (.int .i64 (rd_T32 L i1).f3.f0) ∧ w'.cell? ⟨gb, 4, none⟩ = some (.int .i64 (rd_T32 L i1).f3.f1) ∧ w'.cell? ⟨gb, 5, none⟩ = some (.int .i64 (rd_T32 L i1).f3.f2) ∧ w'.cell? (ad.add (i1.toNat * 6)) = some (.int .i64 (rd_T32 L i1).f0) ∧ w'.cell? ⟨(ad.add (i1.toNat * 6)).block, (ad.add (i1.toNat * 6)).off + 1, none⟩ = some (.int .i64 (rd_T32 L i1).f1) ∧ w'.cell? ⟨(ad.add (i1.toNat * 6)).block, (ad.add (i1.toNat * 6)).off + 2, none⟩ = some (.int .u64 (rd_T32 L i1).f2) ∧ w'.cell? ⟨(ad.add (i1.toNat * 6)).block, (ad.add (i1.toNat * 6)).off + 3, none⟩ = some (.int .i64 (rd_T32 L i1).f3.f0) ∧ w'.cell? ⟨(ad.add (i1.toNat * 6)).block, (ad.add (i1.toNat * 6)).off + 4, none⟩ = some (.int .i64 (rd_T32 L i1).f3.f1) ∧ w'.cell? ⟨(ad.add (i1.toNat * 6)).block, (ad.add (i1.toNat * 6)).off + 5, none⟩ = some (.int .i64 (rd_T32 L i1).f3.f2)) (ds := []) #[false, false, false, false, false, false, false, false, false, false, false, false, false, false, false, false, false, false, false, false] (by kernel_rfl) rfl rfl ⟨(blk_cell BK.out 0).trans rfl, (blk_cell BK.out 1).trans rfl, (blk_cell BK.out 2).trans rfl, (blk_cell BK.out 3).trans rfl, (blk_cell BK.out 4).trans rfl, (blk_cell BK.out 5).trans rfl, hx0, hx1, hx2, hx3, hx4, hx5⟩ (fun hHeld => ?_)
            refine pure_ (i := 1) (N := some 86) (v := ?_) (a' := ?_) #[false, true, false, false, false, false, false, false, false, false, false, false, false, false, false, false, false, false, false, false] rfl rfl (by kernel_rfl) (fun _ _ _ h => h) (Or.inl ⟨by rfl, ?_⟩) ?_ ?_
            rotate_left
            · intro w'
              go_simp
              with_reducible rfl
            rotate_left
            · simp only [Act.put, List.setIfInBounds_toArray, List.set_cons_zero, List.set_cons_succ, i64_w, i32_w]
              rfl
            refine pure_ (i := 2) (N := some 87) (v := ?_) (a' := ?_) #[false, true, true, false, false, false, false, false, false, false, false, false, false, false, false, false, false, false, false, false] rfl rfl (by kernel_rfl) (fun _ _ _ h => h) (Or.inl ⟨by rfl, ?_⟩) ?_ ?_
            rotate_left
            · intro w'
              go_simp
              with_reducible rfl
            rotate_left
            · simp only [Act.put, List.setIfInBounds_toArray, List.set_cons_zero, List.set_cons_succ, i64_w, i32_w]
              rfl
            refine pure_ (i := 3) (N := some 88) (v := ?_) (a' := ?_) #[false, true, true, true, false, false, false, false, false, false, false, false, false, false, false, false, false, false, false, false] rfl rfl (by kernel_rfl) (fun _ _ _ h => h) (Or.inl ⟨by rfl, ?_⟩) ?_ ?_
            rotate_left
            · intro w'
              go_simp
              with_reducible rfl
            rotate_left
            · simp only [Act.put, List.setIfInBounds_toArray, List.set_cons_zero, List.set_cons_succ, i64_w, i32_w]
              rfl
            refine take_ (i := 0) (N := some 85) (v := ?_) (a' := ?_) #[true, true, true, true, false, false, false, false, false, false, false, false, false, false, false, false, false, false, false, false] rfl rfl (by kernel_rfl) (fun _ _ _ h => h) (Or.inl ⟨by rfl, ?_⟩) hHeld ?_ ?_
            rotate_left
            · rintro w' ⟨s0, s1, s2, s3, s4, s5, s6, s7, s8, s9, s10, s11⟩
              go_simp
              with_reducible rfl
            rotate_left
            · simp only [Act.put, List.setIfInBounds_toArray, List.set_cons_zero, List.set_cons_succ, i64_w, i32_w]
              rfl
            refine take_ (i := 4) (N := some 89) (v := ?_) (a' := ?_) #[true, true, true, true, true, false, false, false, false, false, false, false, false, false, false, false, false, false, false, false] rfl rfl (by kernel_rfl) (fun _ _ _ h => h) (Or.inl ⟨by rfl, ?_⟩) hHeld ?_ ?_
            rotate_left
            · rintro w' ⟨s0, s1, s2, s3, s4, s5, s6, s7, s8, s9, s10, s11⟩
              go_simp
              with_reducible rfl
            rotate_left
            · simp only [Act.put, List.setIfInBounds_toArray, List.set_cons_zero, List.set_cons_succ, i64_w, i32_w]
              rfl
            refine pure_ (i := 5) (N := some 90) (v := ?_) (a' := ?_) #[true, true, true, true, true, true, false, false, false, false, false, false, false, false, false, false, false, false, false, false] rfl rfl (by kernel_rfl) (fun _ _ _ h => h) (Or.inl ⟨by rfl, ?_⟩) ?_ ?_
            rotate_left
            · intro w'
              go_simp
              with_reducible rfl
            rotate_left
            · simp only [Act.put, List.setIfInBounds_toArray, List.set_cons_zero, List.set_cons_succ, i64_w, i32_w]
              rfl
            refine pure_ (i := 6) (N := some 91) (v := ?_) (a' := ?_) #[true, true, true, true, true, true, true, false, false, false, false, false, false, false, false, false, false, false, false, false] rfl rfl (by kernel_rfl) (fun _ _ _ h => h) (Or.inl ⟨by rfl, ?_⟩) ?_ ?_
            rotate_left
            · intro w'
              go_simp
              with_reducible rfl
            rotate_left
            · simp only [Act.put, List.setIfInBounds_toArray, List.set_cons_zero, List.set_cons_succ, i64_w, i32_w]
              rfl
            refine pure_ (i := 7) (N := some 92) (v := ?_) (a' := ?_) #[true, true, true, true, true, true, true, true, false, false, false, false, false, false, false, false, false, false, false, false] rfl rfl (by kernel_rfl) (fun _ _ _ h => h) (Or.inl ⟨by rfl, ?_⟩) ?_ ?_
            rotate_left
            · intro w'
              go_simp
              with_reducible rfl
            rotate_left
            · simp only [Act.put, List.setIfInBounds_toArray, List.set_cons_zero, List.set_cons_succ, i64_w, i32_w]
              rfl
            refine pure_ (i := 8) (N := some 93) (v := ?_) (a' := ?_) #[true, true, true, true, true, true, true, true, true, false, false, false, false, false, false, false, false, false, false, false] rfl rfl (by kernel_rfl) (fun _ _ _ h => h) (Or.inl ⟨by rfl, ?_⟩) ?_ ?_
            rotate_left
            · intro w'
              go_simp
              with_reducible rfl
            rotate_left
            · simp only [Act.put, List.setIfInBounds_toArray, List.set_cons_zero, List.set_cons_succ, i64_w, i32_w]
              rfl
            refine pure_ (i := 9) (N := some 94) (v := ?_) (a' := ?_) #[true, true, true, true, true, true, true, true, true, true, false, false, false, false, false, false, false, false, false, false] rfl rfl (by kernel_rfl) (fun _ _ _ h => h) (Or.inl ⟨by rfl, ?_⟩) ?_ ?_
            rotate_left
            · intro w'
              go_simp
              with_reducible rfl
            rotate_left
            · simp only [Act.put, List.setIfInBounds_toArray, List.set_cons_zero, List.set_cons_succ, i64_w, i32_w]
              rfl
            refine pure_ (i := 10) (N := some 95) (v := ?_) (a' := ?_) #[true, true, true, true, true, true, true, true, true, true, true, false, false, false, false, false, false, false, false, false] rfl rfl (by kernel_rfl) (fun _ _ _ h => h) (Or.inl ⟨by rfl, ?_⟩) ?_ ?_
            rotate_left
            · intro w'
              go_simp
              with_reducible rfl
            rotate_left
            · simp only [Act.put, List.setIfInBounds_toArray, List.set_cons_zero, List.set_cons_succ, i64_w, i32_w]
              rfl
            refine pure_ (i := 11) (N := some 96) (v := ?_) (a' := ?_) #[true, true, true, true, true, true, true, true, true, true, true, true, false, false, false, false, false, false, false, false] rfl rfl (by kernel_rfl) (fun _ _ _ h => h) (Or.inl ⟨by rfl, ?_⟩) ?_ ?_
            rotate_left
            · intro w'
              go_simp
              with_reducible rfl
            rotate_left
            · simp only [Act.put, List.setIfInBounds_toArray, List.set_cons_zero, List.set_cons_succ, i64_w, i32_w]
              rfl
            refine pure_ (i := 12) (N := some 97) (v := ?_) (a' := ?_) #[true, true, true, true, true, true, true, true, true, true, true, true, true, false, false, false, false, false, false, false] rfl rfl (by kernel_rfl) (fun _ _ _ h => h) (Or.inl ⟨by rfl, ?_⟩) ?_ ?_
            rotate_left
            · intro w'
              go_simp
              with_reducible rfl
            rotate_left
            · simp only [Act.put, List.setIfInBounds_toArray, List.set_cons_zero, List.set_cons_succ, i64_w, i32_w]
              rfl
            refine pure_ (i := 14) (N := some 99) (v := ?_) (a' := ?_) #[true, true, true, true, true, true, true, true, true, true, true, true, true, false, true, false, false, false, false, false] rfl rfl (by kernel_rfl) (fun _ _ _ h => h) (Or.inl ⟨by rfl, ?_⟩) ?_ ?_
            rotate_left
            · intro w'
              go_simp
              with_reducible rfl
            rotate_left
            · simp only [Act.put, List.setIfInBounds_toArray, List.set_cons_zero, List.set_cons_succ, i64_w, i32_w]
              rfl
            refine pure_ (i := 15) (N := some 100) (v := ?_) (a' := ?_) #[true, true, true, true, true, true, true, true, true, true, true, true, true, false, true, true, false, false, false, false] rfl rfl (by kernel_rfl) (fun _ _ _ h => h) (Or.inl ⟨by rfl, ?_⟩) ?_ ?_
            rotate_left
            · intro w'
              go_simp
              with_reducible rfl
            rotate_left
            · simp only [Act.put, List.setIfInBounds_toArray, List.set_cons_zero, List.set_cons_succ, i64_w, i32_w]
              rfl
            refine one_ (i := 13) (N := some 98) #[true, true, true, true, true, true, true, true, true, true, true, true, true, true, true, true, false, false, false, false] rfl rfl (by kernel_rfl) (by decide) (fun K hK => ?_)
            refine goes_ Try.func17 (by kernel_rfl) rfl #[.pointer (some ⟨g, 0, none⟩), .int .i64 i1] (by rfl) rfl rfl (by simp only [List.map_toArray, List.map_cons, List.map_nil]; rfl) ?_
            with_reducible refine (q13).mono ?_
            rintro e wt ⟨vt, rfl, hb, hR⟩
            refine ⟨_, rfl, ?_⟩
            clear q13
            obtain ⟨At, ct, et⟩ := Kd.R_slice hR
            subst et
            have n0 := Aside0.mk (HA.out.below hb)
            have n2 := Aside0.mk (below_step HB.out hb)
            have m0 := Aside0.mk (Kd.R_below HV.out hb)
            have o0 := Aside0.mk (blk_below BK.out hb)
            clear HA HB HV BK
            have HA := n0
            have HB := n2
            clear n0 n2
            have HV := m0
            clear m0
            have BK := o0
            clear o0
            have HVT := Aside0.mk hR
            clear hb hR
            (obtain ⟨ad13, e13, hy0, hy1, hy2, hy3, hy4, hy5⟩ := at_T32 (Kd.R_reads' HV.out).2.2 i1 (of_eq_true p0) (of_eq_true p1))
            cases e13
            have q16 := backreachref06_Term.calls _ _ _ L i1 t _ (Kd.R_reads' HV.out).2.2 (Kd.R_reads' HV.out).2.1 HU.out
            refine hK.out _ _ ⟨(blk_cell BK.out 0).trans rfl, (blk_cell BK.out 1).trans rfl, (blk_cell BK.out 2).trans rfl, (blk_cell BK.out 3).trans rfl, (blk_cell BK.out 4).trans rfl, (blk_cell BK.out 5).trans rfl, hy0, hy1, hy2, hy3, hy4, hy5⟩ (fun hHeld => ?_)
            clear hK K
            refine norm_ (a' := ?_) ?_ ?_
            rotate_left
            · show Act.put _ (some 98) _ = _
              simp only [Act.put, List.setIfInBounds_toArray, List.set_cons_zero, List.set_cons_succ, i64_w, i32_w]
              rfl
            refine one_ (i := 16) (N := some 101) #[true, true, true, true, true, true, true, true, true, true, true, true, true, true, true, true, true, false, false, false] rfl rfl (by kernel_rfl) (by decide) (fun K hK => ?_)
            refine goes_ Try.func18 (by kernel_rfl) rfl #[.slice (some ad) L.length c, .int .i64 i1] (by rfl) rfl rfl (by simp only [List.map_toArray, List.map_cons, List.map_nil]; rfl) ?_
            with_reducible refine (q16).mono ?_
            rintro e wu ⟨vu, rfl, hR, hb⟩
            refine ⟨_, rfl, ?_⟩
            clear q16
            obtain ⟨Au, cu, eu⟩ := Kd.R_slice hR
            subst eu
            have n0 := Aside0.mk (HA.out.below hb)
            have n2 := Aside0.mk (below_step HB.out hb)
            have m0 := Aside0.mk (Kd.R_below HV.out hb)
            have m1 := Aside0.mk (Kd.R_below HVT.out hb)
            have o0 := Aside0.mk (blk_below BK.out hb)
            clear HA HB HV HVT BK
            have HA := n0
            have HB := n2
            clear n0 n2
            have HV := m0
            clear m0
            have HVT := m1
            clear m1
            have BK := o0
            clear o0
            have HVU := Aside0.mk hR
            clear hb hR
            (obtain ⟨ad16, e16, hz0, hz1, hz2, hz3, hz4, hz5⟩ := at_T32 (Kd.R_reads' HV.out).2.2 i1 (of_eq_true p0) (of_eq_true p1))
            cases e16
            have q17 := backreachref06_Same.calls _ _ _ t _ _ t true _ (Kd.R_reads' HVT.out).2.2 (Kd.R_reads' HVT.out).2.1 (Kd.R_reads' HVU.out).2.2 (Kd.R_reads' HVU.out).2.1 HE.out
            refine hK.out _ _ ⟨(blk_cell BK.out 0).trans rfl, (blk_cell BK.out 1).trans rfl, (blk_cell BK.out 2).trans rfl, (blk_cell BK.out 3).trans rfl, (blk_cell BK.out 4).trans rfl, (blk_cell BK.out 5).trans rfl, hz0, hz1, hz2, hz3, hz4, hz5⟩ (fun hHeld => ?_)
            clear hK K
            refine norm_ (a' := ?_) ?_ ?_
            rotate_left
            · show Act.put _ (some 101) _ = _
              simp only [Act.put, List.setIfInBounds_toArray, List.set_cons_zero, List.set_cons_succ, i64_w, i32_w]
              rfl
            refine one_ (i := 17) (N := some 102) #[true, true, true, true, true, true, true, true, true, true, true, true, true, true, true, true, true, true, false, false] rfl rfl (by kernel_rfl) (by decide) (fun K hK => ?_)
            refine goes_ Try.func16 (by kernel_rfl) rfl #[.slice At t.length ct, .slice Au t.length cu] (by rfl) rfl rfl (by simp only [List.map_toArray, List.map_cons, List.map_nil]; rfl) ?_
            with_reducible refine (q17).mono ?_
            rintro e ws ⟨rfl, hD⟩
            refine ⟨_, rfl, ?_⟩
            clear q17
            have hb := hD.below
            clear hD
            have n0 := Aside0.mk (HA.out.below hb)
            have n2 := Aside0.mk (below_step HB.out hb)
            have m0 := Aside0.mk (Kd.R_below HV.out hb)
            have o0 := Aside0.mk (blk_below BK.out hb)
            clear HA HB HV BK
            have HA := n0
            have HB := n2
            clear n0 n2
            have HV := m0
            clear m0
            have BK := o0
            clear o0
            clear hb HVT HVU
            (obtain ⟨ad17, e17, hu0, hu1, hu2, hu3, hu4, hu5⟩ := at_T32 (Kd.R_reads' HV.out).2.2 i1 (of_eq_true p0) (of_eq_true p1))
            cases e17
            refine hK.out _ _ ⟨(blk_cell BK.out 0).trans rfl, (blk_cell BK.out 1).trans rfl, (blk_cell BK.out 2).trans rfl, (blk_cell BK.out 3).trans rfl, (blk_cell BK.out 4).trans rfl, (blk_cell BK.out 5).trans rfl, hu0, hu1, hu2, hu3, hu4, hu5⟩ (fun hHeld => ?_)
            clear hK K
            refine norm_ (a' := ?_) ?_ ?_
            rotate_left
            · show Act.put _ (some 102) _ = _
              simp only [Act.put, List.setIfInBounds_toArray, List.set_cons_zero, List.set_cons_succ, i64_w, i32_w]
              rfl
            refine pure_ (i := 18) (N := some 103) (v := ?_) (a' := ?_) #[true, true, true, true, true, true, true, true, true, true, true, true, true, true, true, true, true, true, true, false] rfl rfl (by kernel_rfl) (fun _ _ _ h => h) (Or.inl ⟨by rfl, ?_⟩) ?_ ?_
            rotate_left
            · intro w'
              go_simp
              with_reducible rfl
            rotate_left
            · simp only [Act.put, List.setIfInBounds_toArray, List.set_cons_zero, List.set_cons_succ, i64_w, i32_w]
              rfl
            refine pure_ (i := 19) (N := some 104) (v := ?_) (a' := ?_) #[true, true, true, true, true, true, true, true, true, true, true, true, true, true, true, true, true, true, true, true] rfl rfl (by kernel_rfl) (fun _ _ _ h => h) (Or.inl ⟨by rfl, ?_⟩) ?_ ?_
            rotate_left
            · intro w'
              go_simp
              with_reducible rfl
            rotate_left
            · simp only [Act.put, List.setIfInBounds_toArray, List.set_cons_zero, List.set_cons_succ, i64_w, i32_w]
              rfl
            refine done_ (by kernel_rfl) ?_
            clear hHeld
            go_wp2
            have hw1 := HW1.out
            refine ⟨⟨i1 + 1, (by rw [hw1]), HI1, HA, HV, HB⟩, ?_⟩
            rw [hw1]
            have := HC1.out
            show ((L.length : Int) - (i1 + 1)).toNat < ((L.length : Int) - i1).toNat
            omega
          · have c1b : decide (i1 < (L.length : Int)) = false := decide_eq_false c1
            obtain ⟨_, t1⟩ := (Pure.term_term L HG.out.1 (L.length : Int)).ex
            obtain ⟨_, t2⟩ := (Pure.term_term L HG.out.1 (-1)).ex
            rw [termN_out L _ (.inr (Int.le_refl _))] at t1
            rw [termN_out L _ (.inl (by omega))] at t2
            have HT1 := Aside0.mk t1
            have HT2 := Aside0.mk t2
            clear t1 t2 c1 HI
            go_upto_region 22 with (first
                | (go_at_call 15; have q := Ar.at_out HA.out (L.length : Int) (by omega); refine q.mono ?_; clear q; rintro e wt ⟨rfl, hb⟩; have n0 := Aside0.mk (HA.out.below hb); have n2 := Aside0.mk (below_step HB.out hb); have m0 := Aside0.mk (Kd.R_below HV.out hb); clear HA HB HV; have HA := n0; have HB := n2; clear n0 n2; have HV := m0; clear m0; clear hb)
                | ((with_reducible refine gate_dst (N := 14) rfl ?_); (try (refine gate_guard (by rfl) ?_; dsimp only)); refine box_event ?hg (N := 14) ?hd (cs := #[.int .i64 0, .int .i64 0, .int .u64 0, .int .i64 0, .int .i64 0, .int .i64 0]) (t := 32) ?hr ?_; (case hd => rfl); (case hg => rfl); (case hr => first | (go_simp; done) | (go_simp; rfl)); intro gb hg wx hbox hb; have HBX := Aside0.mk hb; have BKX := Aside0.mk hbox; have HGL := Aside0.mk (Nat.le_of_eq hg.symm); have k0 := (blk_cell hbox 0).trans rfl; have k1_ := (blk_cell hbox 1).trans rfl; have k2 := (blk_cell hbox 2).trans rfl; have k3 := (blk_cell hbox 3).trans rfl; have k4 := (blk_cell hbox 4).trans rfl; have k5 := (blk_cell hbox 5).trans rfl; have f0 := blk_frozen hbox 0; have f1 := blk_frozen hbox 1; have f2 := blk_frozen hbox 2; have f3 := blk_frozen hbox 3; have f4 := blk_frozen hbox 4; have f5 := blk_frozen hbox 5; clear hg hb hbox)
                | ((with_reducible refine gate_store (t := 32) (p := 14) rfl ?_); refine store_event (t := 32) (p := 14) (v := ?vo14) (w1 := ((((((wx.setCell ⟨gb, 0, none⟩ (.int .i64 0)).setCell ⟨gb, 1, none⟩ (.int .i64 0)).setCell ⟨gb, 2, none⟩ (.int .u64 0)).setCell ⟨gb, 3, none⟩ (.int .i64 0)).setCell ⟨gb, 4, none⟩ (.int .i64 0)).setCell ⟨gb, 5, none⟩ (.int .i64 0))) ?hg ?ho ?hn ?hr ?_; (case ho => rfl); (case hg => rfl); (case hn => rfl); (case hr => first | (go_simp; done) | (go_simp; rfl)); intro w3 hw; have hb : Below _ _ w3 := (by rw [hw]; exact below_six HBX.out HGL.out); have hbk : w3.heap[gb]? = some (.cells #[.int .i64 0, .int .i64 0, .int .u64 0, .int .i64 0, .int .i64 0, .int .i64 0] 32 (0, 0)) := (by rw [hw]; exact blk_six BKX.out); have n0 := Aside0.mk (HA.out.below hb); have n2 := Aside0.mk (below_step HB.out hb); have m0 := Aside0.mk (Kd.R_below HV.out hb); clear HA HB HV; have HA := n0; have HB := n2; clear n0 n2; have HV := m0; clear m0; clear HBX BKX HGL k0 k1_ k2 k3 k4 k5 f0 f1 f2 f3 f4 f5 hw hb; have BK := Aside0.mk hbk; clear hbk))
            clear BK
            go_wp2_with (first
                | (go_at_call 15; have q := Ar.at_out HA.out (-1) (by omega); refine q.mono ?_; clear q; rintro e wt ⟨rfl, hb⟩; have n0 := Aside0.mk (HA.out.below hb); have n2 := Aside0.mk (below_step HB.out hb); have m0 := Aside0.mk (Kd.R_below HV.out hb); clear HA HB HV; have HA := n0; have HB := n2; clear n0 n2; have HV := m0; clear m0; clear hb)
                | ((with_reducible refine gate_dst (N := 16) rfl ?_); (try (refine gate_guard (by rfl) ?_; dsimp only)); refine box_event ?hg (N := 16) ?hd (cs := #[.int .i64 0, .int .i64 0, .int .u64 0, .int .i64 0, .int .i64 0, .int .i64 0]) (t := 32) ?hr ?_; (case hd => rfl); (case hg => rfl); (case hr => first | (go_simp; done) | (go_simp; rfl)); intro gb hg wx hbox hb; have HBX := Aside0.mk hb; have BKX := Aside0.mk hbox; have HGL := Aside0.mk (Nat.le_of_eq hg.symm); have k0 := (blk_cell hbox 0).trans rfl; have k1_ := (blk_cell hbox 1).trans rfl; have k2 := (blk_cell hbox 2).trans rfl; have k3 := (blk_cell hbox 3).trans rfl; have k4 := (blk_cell hbox 4).trans rfl; have k5 := (blk_cell hbox 5).trans rfl; have f0 := blk_frozen hbox 0; have f1 := blk_frozen hbox 1; have f2 := blk_frozen hbox 2; have f3 := blk_frozen hbox 3; have f4 := blk_frozen hbox 4; have f5 := blk_frozen hbox 5; clear hg hb hbox)
                | ((with_reducible refine gate_store (t := 32) (p := 16) rfl ?_); refine store_event (t := 32) (p := 16) (v := ?vo16) (w1 := ((((((wx.setCell ⟨gb, 0, none⟩ (.int .i64 0)).setCell ⟨gb, 1, none⟩ (.int .i64 0)).setCell ⟨gb, 2, none⟩ (.int .u64 0)).setCell ⟨gb, 3, none⟩ (.int .i64 0)).setCell ⟨gb, 4, none⟩ (.int .i64 0)).setCell ⟨gb, 5, none⟩ (.int .i64 0))) ?hg ?ho ?hn ?hr ?_; (case ho => rfl); (case hg => rfl); (case hn => rfl); (case hr => first | (go_simp; done) | (go_simp; rfl)); intro w3 hw; have hb : Below _ _ w3 := (by rw [hw]; exact below_six HBX.out HGL.out); have hbk : w3.heap[gb]? = some (.cells #[.int .i64 0, .int .i64 0, .int .u64 0, .int .i64 0, .int .i64 0, .int .i64 0] 32 (0, 0)) := (by rw [hw]; exact blk_six BKX.out); have n0 := Aside0.mk (HA.out.below hb); have n2 := Aside0.mk (below_step HB.out hb); have m0 := Aside0.mk (Kd.R_below HV.out hb); clear HA HB HV; have HA := n0; have HB := n2; clear n0 n2; have HV := m0; clear m0; clear HBX BKX HGL k0 k1_ k2 k3 k4 k5 f0 f1 f2 f3 f4 f5 hw hb; have BK := Aside0.mk hbk; clear hbk))
            go_wp2_with (fail)
            go_at_call 17
            have q := Ar.term HA.out HT1.out
            refine q.mono ?_
            clear q
            rintro e wt1 ⟨vt1, rfl, hb, hR⟩
            (obtain ⟨At, ct, et⟩ := Kd.R_slice hR)
            subst et
            have n0 := Aside0.mk (HA.out.below hb)
            have n2 := Aside0.mk (below_step HB.out hb)
            have m0 := Aside0.mk (Kd.R_below HV.out hb)
            clear HA HB HV
            have HA := n0
            have HB := n2
            clear n0 n2
            have HV := m0
            clear m0
            clear hb hR
            go_wp2_with (fail)
            go_at_call 17
            have q := Ar.term HA.out HT2.out
            refine q.mono ?_
            clear q
            rintro e wt2 ⟨vt2, rfl, hb, hR⟩
            (obtain ⟨At, ct, et⟩ := Kd.R_slice hR)
            subst et
            have n0 := Aside0.mk (HA.out.below hb)
            have n2 := Aside0.mk (below_step HB.out hb)
            have m0 := Aside0.mk (Kd.R_below HV.out hb)
            clear HA HB HV
            have HA := n0
            have HB := n2
            clear n0 n2
            have HV := m0
            clear m0
            clear hb hR
            go_wp2
            go_ret
            exact ⟨rfl, HB.out⟩
end Go.Proofs.Ytkindfbbklkjdaa.P
