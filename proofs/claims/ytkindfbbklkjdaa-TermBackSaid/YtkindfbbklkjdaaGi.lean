/- Arena.Put, by hand: a term is put node by node. -/
import Derived.Test.YtkindfbbklkjdaaGf
import Derived.Test.YtkindfbbklkjdaaPx10
import Derived.Test.YtkindfbbklkjdaaPx23
namespace Go.Proofs.Ytkindfbbklkjdaa.P
open Go.RowKit Go.Proofs.YtkindfbbklkjdaaW.PrintWords Go.Proofs.YtkindfbbklkjdaaW.PrintLast Go.Proofs.YtkindfbbklkjdaaW.PrintMore
set_option linter.unusedVariables false
set_option linter.unusedSimpArgs false

/-! ### fn: function 23 -/
def term_Arena_Put.l0 : Nat → List S32 → Int → List S32 → List Int → Int → Option (List S32 × Int × Int × Int)
  | 0, _, _, _, _, _ => none
  | k + 1, L, m, l, tt, i => if i < (l.length : Int) then (if 0 ≤ i then ((term_moved.f k (rd_T32 l i).f0 (rd_T32 l i).f1 (rd_T32 l i).f2 (rd_T32 l i).f3.f0 (rd_T32 l i).f3.f1 (rd_T32 l i).f3.f2 tt).bind fun b => (term_Arena_Make.f k L ⟨b.1, b.2.1, b.2.2.1, ⟨b.2.2.2.1, b.2.2.2.2.1, b.2.2.2.2.2⟩⟩).bind fun q => if q.2.2 = 0 then (if i < (tt.length : Int) then term_Arena_Put.l0 k q.1 (wrap64 (m + 1)) l (tt.set i.toNat q.2.1) (wrap64 (i + 1)) else none) else some (q.1, wrap64 (m + 1), 0, q.2.2)) else none) else (if 0 ≤ wrap64 ((l.length : Int) - 1) then (if wrap64 ((l.length : Int) - 1) < (tt.length : Int) then some (L, m, rd tt (wrap64 ((l.length : Int) - 1)), 0) else none) else none)
def term_Arena_Put.f (k : Nat) (L : List S32) (m : Int) (l : List S32) : Option (List S32 × Int × Int × Int) :=
  (term_Check.f k l).bind fun b => if b.1 = 0 then (if (l.length : Int).toNat ≤ 35184372088832 then term_Arena_Put.l0 k L m l (List.replicate (l.length : Int).toNat 0) 0 else none) else some (L, m, 0, b.1)

theorem below_six {B : Nat} {w W : World} {g : Nat} {y0 y1 y2 y3 y4 y5 : Value} (h : Below B w W) (hg : B ≤ g) :
    Below B w ((((((W.setCell ⟨g, 0, none⟩ y0).setCell ⟨g, 1, none⟩ y1).setCell ⟨g, 2, none⟩ y2).setCell ⟨g, 3, none⟩ y3).setCell ⟨g, 4, none⟩ y4).setCell ⟨g, 5, none⟩ y5) :=
  (((((h.setCell hg _).setCell hg _).setCell hg _).setCell hg _).setCell hg _).setCell hg _

set_option maxHeartbeats 8000000 in
set_option maxRecDepth 100000 in
theorem term_Arena_Put.bad (k : Nat) (base : Nat) (P : Nat → Prop) (g : Nat) (L : List S32) (m : Int) (v : Value) (bm : Nat) (A : Option Addr) (c : Nat) (l : List S32) (e0 a0 : Int) (w : World) (h : ArenaAt w base P g L m v bm) (hr : Kd.C k32 w A l.length l) (hc : l.length ≤ c) (hf : term_Check.f k l = some (e0, a0)) (he : e0 ≠ 0) :
    Calls Try.prog 23 #[.pointer (some ⟨g, 0, none⟩), .slice A l.length c] w fun e w' => e = .returned (.tuple #[.int .i64 0, .int .i64 e0]) ∧ Below w.heap.size w w' := by
  have e0b : (e0 != 0) = true := bne_iff_ne.mpr he
  have q := term_Check.calls k A c l e0 a0 w hr hc hf
  have HQ := Aside0.mk q
  clear q
  go_enter Try.func23, Try.ntmps23
  go_wp2_with (first | (go_at_call 19; refine HQ.out.mono ?_; rintro e w1 ⟨rfl, hb⟩; have HB := Aside0.mk hb; clear hb))
  go_ret2
  exact ⟨rfl, HB.out⟩


set_option maxHeartbeats 8000000 in
set_option maxRecDepth 100000 in
theorem term_Arena_Put.good (k : Nat) (base : Nat) (P : Nat → Prop) (g : Nat) (L : List S32) (m : Int) (v : Value) (bm : Nat) (A : Option Addr) (c : Nat) (l : List S32) (a0 : Int) (L' : List S32) (m' r1 r2 : Int) (w : World) (h : ArenaAt w base P g L m v bm) (hle : base ≤ w.heap.size) (hlt : ∀ k_, P k_ → k_ < w.heap.size) (hr : ∀ W, Kept w W P → Kd.C k32 W A l.length l) (hc : l.length ≤ c) (hf : term_Check.f k l = some (0, a0)) (hs : (l.length : Int).toNat ≤ 35184372088832) (hl : term_Arena_Put.l0 k L m l (List.replicate (l.length : Int).toNat 0) 0 = some (L', m', r1, r2)) :
    Calls Try.prog 23 #[.pointer (some ⟨g, 0, none⟩), .slice A l.length c] w fun e w' => ∃ v', e = .returned (.tuple #[.int .i64 r1, .int .i64 r2]) ∧ ArenaAt w' base (fun k_ => P k_ ∨ w.heap.size ≤ k_) g L' m' v' bm ∧ Below base w w' ∧ Kept w w' P := by
  have hu32 := Try.underlying32
  have e0b : ((0 : Int) != 0) = false := rfl
  have q := term_Check.calls k A c l 0 a0 w (hr w (Kept.refl w P)) hc hf
  have HQ := Aside0.mk q
  have HR := Aside0.mk hr
  have HL := Aside0.mk hl
  have HS := Aside0.mk hs
  have HA0 := Aside0.mk h
  have c49b1 : decide ((l.length : Int).toNat ≤ 35184372088832) = true := decide_eq_true hs
  have c49b0 : decide (0 ≤ (l.length : Int)) = true := decide_eq_true (by omega)
  clear q hr hl hs h
  obtain ⟨y, hy⟩ : ∃ y : List Int, y = List.replicate (l.length : Int).toNat 0 := ⟨_, rfl⟩
  have NY := Aside0.mk hy
  clear hy
  have HLE := Aside0.mk hle
  have HLT := Aside0.mk hlt
  clear hle hlt
  go_enter Try.func23, Try.ntmps23
  go_wp2_with (first
    | (go_at_call 19; refine HQ.out.mono ?_; rintro e w1 ⟨rfl, hb⟩; have HB := Aside0.mk hb; have HK := Aside0.mk (Kept.below (Kept.refl w P) hb); have HA := Aside0.mk (HA0.out.below hb); clear hb)
    | ((with_reducible refine gate_dst (N := 23) rfl ?_); (try (refine gate_guard (by rfl) ?_; dsimp only)); refine Kd.R_make (Kd.int .i64) _ 3 rfl (N := 23) rfl 67 _ _ rfl (l.length : Int) rfl rfl Try.underlying67 (.int .i64 0) 8 info3 rfl (by decide) (by omega) 0 (ok := fun _ => True) (okp := fun _ => True) rfl (fun _ hk => hk) trivial (of_decide_eq_true c49b0) (Nat.le_trans (Nat.mul_le_mul_right _ HS.out) (by omega)) (Below.refl _ _) (Nat.le_refl _) ?_; intro vt w2 ho hb hg_ hnew_; clear hg_ hnew_; rw [← NY.out] at ho; have n0 := Aside0.mk (below_step HB.out hb); have n1 := Aside0.mk (Kept.below HK.out hb); have n2 := Aside0.mk (HA.out.below hb); have HT := Aside0.mk (Kd.R_tight rfl (Kd.R_lower ho (Nat.zero_le _))); have HTN := Aside0.mk (show ∀ k_, P k_ → some k_ ≠ (vt : Value).ownBlock from fun k_ hk e_ => by have h1 := Kd.R_base ho k_ e_.symm; have h2 := HLT.out k_ hk; have h3 := HB.out.size; omega); have HTG := Aside0.mk (show ∀ k_, some k_ = (vt : Value).ownBlock → w.heap.size ≤ k_ from fun k_ e_ => by have h1 := Kd.R_base ho k_ e_.symm; have h3 := HB.out.size; omega); clear HB HK HA; have HB := n0; have HK := n1; have HA := n2; clear n0 n1 n2 ho hb))
  have H' := HL.out
  rw [← NY.out] at H'
  have HL1 := Aside0.mk H'
  clear H' HL
  go_loopg [26] k (fun kq v26 w' => ∃ (L1 : List S32) (m1 : Int) (t1 : List Int) (i1 : Int) (v1 : Value) (Q : Nat → Prop), v26 = .int .i64 i1 ∧ Aside0 (term_Arena_Put.l0 kq L1 m1 l t1 i1 = some (L', m', r1, r2)) ∧ Aside0 (kq ≤ k) ∧ Aside0 (ArenaAt w' base Q g L1 m1 v1 bm) ∧ Aside0 (∀ k_, Q k_ → (P k_ ∨ w.heap.size ≤ k_) ∧ some k_ ≠ (vt : Value).ownBlock) ∧ Aside0 (Kd.R (Kd.int .i64) 3 w' 0 (fun k_ => some k_ = (vt : Value).ownBlock) vt t1) ∧ Aside0 (Below base w w') ∧ Aside0 (Kept w w' P))
  case atStart => exact ⟨L, m, y, 0, v, P, rfl, HL1, ⟨Nat.le_refl _⟩, HA, ⟨fun k_ hk => ⟨.inl hk, HTN.out k_ hk⟩⟩, HT, ⟨HB.out.mono HLE.out⟩, HK⟩
  case round =>
    clear HL1 HA HB HK HT HTN
    obtain ⟨L1, m1, t1, i1, v1, Q, rfl, HL1, HK1, HA, HQ1, HT, HB, HK⟩ := hrel
    cases gk with
    | zero => exact absurd HL1.out (by simp [term_Arena_Put.l0])
    | succ k1 =>
      have H := HL1.out
      clear HL1
      simp only [term_Arena_Put.l0] at H
      by_cases c6 : i1 < (l.length : Int)
      · rw [if_pos c6] at H
        have c6b0 : decide (i1 < (l.length : Int)) = true := decide_eq_true c6
        by_cases c7 : 0 ≤ i1
        · rw [if_pos c7] at H
          obtain ⟨⟨b0, b1, b2, b3, b4, b5⟩, hmv, H⟩ := Option.bind_eq_some_iff.mp H
          obtain ⟨⟨L2, q1, q2⟩, hmk, H⟩ := Option.bind_eq_some_iff.mp H
          have HMV := Aside0.mk hmv
          have HMK := Aside0.mk hmk
          have HH := Aside0.mk H
          clear hmv hmk H
          obtain ⟨ad, e, hx0, hx1, hx2, hx3, hx4, hx5⟩ := at_T32 (HR.out _ HK.out) i1 c7 c6
          cases e
          replace c6 := eq_true c6
          replace c7 := eq_true c7
          by_cases c8 : q2 = 0
          · have HH' := HH.out
            rw [if_pos c8] at HH'
            have c8b : (q2 != 0) = false := bne_eq_false_iff_eq.mpr c8
            by_cases c9 : i1 < (t1.length : Int)
            · rw [if_pos c9] at HH'
              have HN := Aside0.mk HH'
              clear HH' HH c8
              have c7' : 0 ≤ i1 := of_eq_true c7
              obtain ⟨go, co, eo, _, _, _, _⟩ := Kd.R_form HT.out (by omega)
              subst eo
              have p9 : 0 ≤ i1 := c7'
              have q9 : i1 < (t1.length : Int) := c9
              have p9e := eq_true p9
              have q9e := eq_true q9
              go_wp2_with (first
    | ((with_reducible refine gate_dst (N := 10) rfl ?_); (try (refine gate_guard (by rfl) ?_; dsimp only)); refine box_event ?hg (N := 10) ?hd (cs := #[.int .i64 0, .int .i64 0, .int .u64 0, .int .i64 0, .int .i64 0, .int .i64 0]) (t := 32) ?hr ?_; (case hd => rfl); (case hg => rfl); (case hr => first | (go_simp; done) | (go_simp; rfl)); intro gb hg wx hbox hb; have HBX := Aside0.mk hb; have BKX := Aside0.mk hbox; have HGL := Aside0.mk (Nat.le_of_eq hg.symm); have k0 := (blk_cell hbox 0).trans rfl; have k1_ := (blk_cell hbox 1).trans rfl; have k2 := (blk_cell hbox 2).trans rfl; have k3 := (blk_cell hbox 3).trans rfl; have k4 := (blk_cell hbox 4).trans rfl; have k5 := (blk_cell hbox 5).trans rfl; have f0 := blk_frozen hbox 0; have f1 := blk_frozen hbox 1; have f2 := blk_frozen hbox 2; have f3 := blk_frozen hbox 3; have f4 := blk_frozen hbox 4; have f5 := blk_frozen hbox 5; clear hg hb hbox)
    | ((with_reducible refine gate_store (t := 32) (p := 10) rfl ?_); refine store_event (t := 32) (p := 10) (v := ?vo) (w1 := ((((((wx.setCell ⟨gb, 0, none⟩ (.int .i64 (rd_T32 l i1).f0)).setCell ⟨gb, 1, none⟩ (.int .i64 (rd_T32 l i1).f1)).setCell ⟨gb, 2, none⟩ (.int .u64 (rd_T32 l i1).f2)).setCell ⟨gb, 3, none⟩ (.int .i64 (rd_T32 l i1).f3.f0)).setCell ⟨gb, 4, none⟩ (.int .i64 (rd_T32 l i1).f3.f1)).setCell ⟨gb, 5, none⟩ (.int .i64 (rd_T32 l i1).f3.f2))) ?hg ?ho ?hn ?hr ?_; (case ho => rfl); (case hg => rfl); (case hn => rfl); (case hr => first | (go_simp; done) | (go_simp; rfl)); intro w3 hw; have hb : Below _ _ w3 := (by rw [hw]; exact below_six HBX.out HGL.out); have hbk : w3.heap[gb]? = some (.cells #[.int .i64 (rd_T32 l i1).f0, .int .i64 (rd_T32 l i1).f1, .int .u64 (rd_T32 l i1).f2, .int .i64 (rd_T32 l i1).f3.f0, .int .i64 (rd_T32 l i1).f3.f1, .int .i64 (rd_T32 l i1).f3.f2] 32 (0, 0)) := (by rw [hw]; exact blk_six BKX.out); have n0 := Aside0.mk (HA.out.below hb); have n1 := Aside0.mk (Kd.R_below HT.out hb); have n2 := Aside0.mk (below_then HB.out (Nat.le_trans HLE.out HK.out.1) hb); have n3 := Aside0.mk (Kept.below HK.out hb); clear HA HT HB HK HBX BKX HGL k0 k1_ k2 k3 k4 k5 f0 f1 f2 f3 f4 f5 hw; have HA := n0; have HT := n1; have HB := n2; have HK := n3; clear n0 n1 n2 n3 hb; have k0 := (blk_cell hbk 0).trans rfl; have k1_ := (blk_cell hbk 1).trans rfl; have k2 := (blk_cell hbk 2).trans rfl; have k3 := (blk_cell hbk 3).trans rfl; have k4 := (blk_cell hbk 4).trans rfl; have k5 := (blk_cell hbk 5).trans rfl; clear hbk)
    | (go_at_call 30; have q := term_moved.calls k1 (rd_T32 l i1).f0 (rd_T32 l i1).f1 (rd_T32 l i1).f2 (rd_T32 l i1).f3.f0 (rd_T32 l i1).f3.f1 (rd_T32 l i1).f3.f2 _ _ t1 b0 b1 b2 b3 b4 b5 _ (Kd.R_reads' HT.out).2.2 (Kd.R_reads' HT.out).2.1 HMV.out; refine q.mono ?_; clear q; rintro e w4 ⟨rfl, hb⟩; have n0 := Aside0.mk (HA.out.below hb); have n1 := Aside0.mk (Kd.R_below HT.out hb); have n2 := Aside0.mk (below_then HB.out (Nat.le_trans HLE.out HK.out.1) hb); have n3 := Aside0.mk (Kept.below HK.out hb); clear HA HT HB HK k0 k1_ k2 k3 k4 k5; have HA := n0; have HT := n1; have HB := n2; have HK := n3; clear n0 n1 n2 n3 hb)
    | (go_at_call 11; have q := term_Arena_Make.calls k1 base Q g L1 m1 v1 bm ⟨b0, b1, b2, ⟨b3, b4, b5⟩⟩ L2 q1 q2 _ HA.out (Nat.le_trans HLE.out HK.out.1) HMK.out; refine q.mono ?_; clear q; rintro e w5 ⟨v2, rfl, hA, hB, hK⟩; have n4 := Aside0.mk (show ∀ k_, (Q k_ ∨ _ ≤ k_) → (P k_ ∨ w.heap.size ≤ k_) ∧ some k_ ≠ (.slice (some ⟨go, 0, none⟩) t1.length co : Value).ownBlock from fun k_ hk => hk.elim (fun hk => HQ1.out k_ hk) (fun hk => ⟨.inr (Nat.le_trans HK.out.1 hk), fun e_ => absurd (Kd.R_lt HT.out k_ e_.symm) (Nat.not_lt.2 hk)⟩)); have n1 := Aside0.mk (Kd.R_kept HT.out hK (fun k_ e_ hq => (HQ1.out k_ hq).2 e_)); have n2 := Aside0.mk (HB.out.trans hB); have n3 := Aside0.mk (Kept.then_ HK.out hK (fun k_ hq => (HQ1.out k_ hq).1)); clear HT HB HK HA HQ1; have HA := Aside0.mk hA; have HT := n1; have HB := n2; have HK := n3; have HQ1 := n4; clear n1 n2 n3 n4 hA hB hK; have HP := Aside0.mk (Kd.R_putg HT.out i1 q1); (obtain ⟨hz0, hz1⟩ := Kd.R_celln 0 HT.out i1 p9 q9))
    | ((with_reducible refine gate_store (t := 3) (p := 45) rfl ?_); refine store_event (t := 3) (p := 45) (v := ?vo2) (w1 := (w5.setCell ⟨go, i1.toNat, none⟩ (.int .i64 q1))) ?hg ?ho ?hn ?hr ?_; (case ho => rfl); (case hg => rfl); (case hn => rfl); (case hr => first | (go_simp; done) | (go_simp; rfl)); intro w6 hw; have hg : w5.grownBy w6 (some go) := (by rw [hw]; exact HP.out.2); have n1 := Aside0.mk (show Kd.R (Kd.int .i64) 3 w6 0 (fun k_ => some k_ = (.slice (some ⟨go, 0, none⟩) t1.length co : Value).ownBlock) (.slice (some ⟨go, 0, none⟩) t1.length co) (t1.set i1.toNat q1) by rw [hw]; exact HP.out.1); have n0 := Aside0.mk (HA.out.kept (S := fun k_ => k_ = go) (Kept.of_grown hg (Kept.refl w5 _) (fun k_ e_ => .inl (Option.some.inj e_).symm)) (fun k_ hq e_ => (HQ1.out k_ hq).2 (by rw [e_]; rfl))); have n2 := Aside0.mk (show Below base w w6 by rw [hw]; exact HB.out.setCell (Nat.le_trans HLE.out (HTG.out go rfl)) _); have n3 := Aside0.mk (show Kept w w6 P by rw [hw]; exact Kept.setCell HK.out (.inr (HTG.out go rfl)) _); clear HA HT HB HK HP hz0 hz1 hg hw; have HA := n0; have HT := n1; have HB := n2; have HK := n3; clear n0 n1 n2 n3))
              go_roundg k1
              case measure => have := HK1.out; omega
              case rel => exact ⟨L2, wrap64 (m1 + 1), t1.set i1.toNat q1, wrap64 (i1 + 1), v2, _, (by first | rfl | (simp; done) | (simp [*]; done)), HN, ⟨by have := HK1.out; omega⟩, HA, HQ1, HT, HB, HK⟩
            · rw [if_neg c9] at HH'
              exact absurd HH' (by simp)
          · have HH' := HH.out
            rw [if_neg c8] at HH'
            have c8b : (q2 != 0) = true := bne_iff_ne.mpr c8
            simp only [Option.some.injEq, Prod.mk.injEq] at HH'
            obtain ⟨rfl, rfl, rfl, rfl⟩ := HH'
            clear HH c8
            obtain ⟨At, ct, et⟩ := Kd.R_slice HT.out
            subst et
            go_wp2_with (first
    | ((with_reducible refine gate_dst (N := 10) rfl ?_); (try (refine gate_guard (by rfl) ?_; dsimp only)); refine box_event ?hg (N := 10) ?hd (cs := #[.int .i64 0, .int .i64 0, .int .u64 0, .int .i64 0, .int .i64 0, .int .i64 0]) (t := 32) ?hr ?_; (case hd => rfl); (case hg => rfl); (case hr => first | (go_simp; done) | (go_simp; rfl)); intro gb hg wx hbox hb; have HBX := Aside0.mk hb; have BKX := Aside0.mk hbox; have HGL := Aside0.mk (Nat.le_of_eq hg.symm); have k0 := (blk_cell hbox 0).trans rfl; have k1_ := (blk_cell hbox 1).trans rfl; have k2 := (blk_cell hbox 2).trans rfl; have k3 := (blk_cell hbox 3).trans rfl; have k4 := (blk_cell hbox 4).trans rfl; have k5 := (blk_cell hbox 5).trans rfl; have f0 := blk_frozen hbox 0; have f1 := blk_frozen hbox 1; have f2 := blk_frozen hbox 2; have f3 := blk_frozen hbox 3; have f4 := blk_frozen hbox 4; have f5 := blk_frozen hbox 5; clear hg hb hbox)
    | ((with_reducible refine gate_store (t := 32) (p := 10) rfl ?_); refine store_event (t := 32) (p := 10) (v := ?vo) (w1 := ((((((wx.setCell ⟨gb, 0, none⟩ (.int .i64 (rd_T32 l i1).f0)).setCell ⟨gb, 1, none⟩ (.int .i64 (rd_T32 l i1).f1)).setCell ⟨gb, 2, none⟩ (.int .u64 (rd_T32 l i1).f2)).setCell ⟨gb, 3, none⟩ (.int .i64 (rd_T32 l i1).f3.f0)).setCell ⟨gb, 4, none⟩ (.int .i64 (rd_T32 l i1).f3.f1)).setCell ⟨gb, 5, none⟩ (.int .i64 (rd_T32 l i1).f3.f2))) ?hg ?ho ?hn ?hr ?_; (case ho => rfl); (case hg => rfl); (case hn => rfl); (case hr => first | (go_simp; done) | (go_simp; rfl)); intro w3 hw; have hb : Below _ _ w3 := (by rw [hw]; exact below_six HBX.out HGL.out); have hbk : w3.heap[gb]? = some (.cells #[.int .i64 (rd_T32 l i1).f0, .int .i64 (rd_T32 l i1).f1, .int .u64 (rd_T32 l i1).f2, .int .i64 (rd_T32 l i1).f3.f0, .int .i64 (rd_T32 l i1).f3.f1, .int .i64 (rd_T32 l i1).f3.f2] 32 (0, 0)) := (by rw [hw]; exact blk_six BKX.out); have n0 := Aside0.mk (HA.out.below hb); have n1 := Aside0.mk (Kd.R_below HT.out hb); have n2 := Aside0.mk (below_then HB.out (Nat.le_trans HLE.out HK.out.1) hb); have n3 := Aside0.mk (Kept.below HK.out hb); clear HA HT HB HK HBX BKX HGL k0 k1_ k2 k3 k4 k5 f0 f1 f2 f3 f4 f5 hw; have HA := n0; have HT := n1; have HB := n2; have HK := n3; clear n0 n1 n2 n3 hb; have k0 := (blk_cell hbk 0).trans rfl; have k1_ := (blk_cell hbk 1).trans rfl; have k2 := (blk_cell hbk 2).trans rfl; have k3 := (blk_cell hbk 3).trans rfl; have k4 := (blk_cell hbk 4).trans rfl; have k5 := (blk_cell hbk 5).trans rfl; clear hbk)
    | (go_at_call 30; have q := term_moved.calls k1 (rd_T32 l i1).f0 (rd_T32 l i1).f1 (rd_T32 l i1).f2 (rd_T32 l i1).f3.f0 (rd_T32 l i1).f3.f1 (rd_T32 l i1).f3.f2 _ _ t1 b0 b1 b2 b3 b4 b5 _ (Kd.R_reads' HT.out).2.2 (Kd.R_reads' HT.out).2.1 HMV.out; refine q.mono ?_; clear q; rintro e w4 ⟨rfl, hb⟩; have n0 := Aside0.mk (HA.out.below hb); have n1 := Aside0.mk (Kd.R_below HT.out hb); have n2 := Aside0.mk (below_then HB.out (Nat.le_trans HLE.out HK.out.1) hb); have n3 := Aside0.mk (Kept.below HK.out hb); clear HA HT HB HK k0 k1_ k2 k3 k4 k5; have HA := n0; have HT := n1; have HB := n2; have HK := n3; clear n0 n1 n2 n3 hb)
    | (go_at_call 11; have q := term_Arena_Make.calls k1 base Q g L1 m1 v1 bm ⟨b0, b1, b2, ⟨b3, b4, b5⟩⟩ L2 q1 q2 _ HA.out (Nat.le_trans HLE.out HK.out.1) HMK.out; refine q.mono ?_; clear q; rintro e w5 ⟨v2, rfl, hA, hB, hK⟩; have n4 := Aside0.mk (show ∀ k_, (Q k_ ∨ _ ≤ k_) → (P k_ ∨ w.heap.size ≤ k_) ∧ some k_ ≠ (.slice At t1.length ct : Value).ownBlock from fun k_ hk => hk.elim (fun hk => HQ1.out k_ hk) (fun hk => ⟨.inr (Nat.le_trans HK.out.1 hk), fun e_ => absurd (Kd.R_lt HT.out k_ e_.symm) (Nat.not_lt.2 hk)⟩)); have n1 := Aside0.mk (Kd.R_kept HT.out hK (fun k_ e_ hq => (HQ1.out k_ hq).2 e_)); have n2 := Aside0.mk (HB.out.trans hB); have n3 := Aside0.mk (Kept.then_ HK.out hK (fun k_ hq => (HQ1.out k_ hq).1)); clear HT HB HK HA HQ1; have HA := Aside0.mk hA; have HT := n1; have HB := n2; have HK := n3; have HQ1 := n4; clear n1 n2 n3 n4 hA hB hK))
            go_ret2
            exact ⟨v2, rfl, HA.out.mono (fun k_ hk => (HQ1.out k_ hk).1), HB.out, HK.out⟩
        · rw [if_neg c7] at H
          exact absurd H (by simp)
      · rw [if_neg c6] at H
        have c6b0 : decide (i1 < (l.length : Int)) = false := decide_eq_false c6
        obtain ⟨ji, hji⟩ : ∃ j_ : Int, wrap64 ((l.length : Int) - 1) = j_ := ⟨_, rfl⟩
        rw [hji] at H
        have hjiw : (IntKind.i64.wrap ((l.length : Int) - 1)) = ji := (i64_w _).trans hji
        by_cases c22 : 0 ≤ ji
        · rw [if_pos c22] at H
          by_cases c23 : ji < (t1.length : Int)
          · rw [if_pos c23] at H
            simp only [Option.some.injEq, Prod.mk.injEq] at H
            obtain ⟨rfl, rfl, rfl, rfl⟩ := H
            obtain ⟨At, ct, et⟩ := Kd.R_slice HT.out
            subst et
            obtain ⟨ad, e, hx⟩ := Kd.at_int (Kd.R_reads' HT.out).2.2 ji c22 c23
            cases e
            have c22b := eq_true c22
            have c23b := eq_true c23
            clear c22 c23
            go_wp2
            go_ret2
            exact ⟨rfl, ⟨v1, HA.out.mono (fun k_ hk => (HQ1.out k_ hk).1)⟩, HB.out, HK.out⟩
          · rw [if_neg c23] at H
            exact absurd H (by simp)
        · rw [if_neg c22] at H
          exact absurd H (by simp)

theorem kept_wider {w W : World} {S S' : Nat → Prop} (h : Kept w W S) (hs : ∀ k, S k → S' k) : Kept w W S' := ⟨h.1, fun i hi hn => h.2 i hi (fun hk => hn (hs i hk))⟩
theorem term_Arena_Put.calls (k : Nat) (base : Nat) (P : Nat → Prop) (g : Nat) (L : List S32) (m : Int) (v : Value) (bm : Nat) (A : Option Addr) (c : Nat) (l : List S32) (L' : List S32) (m' r1 r2 : Int) (w : World) (h : ArenaAt w base P g L m v bm) (hle : base ≤ w.heap.size) (hr : ∀ W, Kept w W P → Kd.C k32 W A l.length l) (hc : l.length ≤ c) (hf : term_Arena_Put.f k L m l = some (L', m', r1, r2)) :
    Calls Try.prog 23 #[.pointer (some ⟨g, 0, none⟩), .slice A l.length c] w fun e w' => ∃ v', e = .returned (.tuple #[.int .i64 r1, .int .i64 r2]) ∧ ArenaAt w' base (fun k_ => P k_ ∨ w.heap.size ≤ k_) g L' m' v' bm ∧ Below base w w' ∧ Kept w w' P := by
  unfold term_Arena_Put.f at hf
  obtain ⟨⟨e0, a0⟩, hck, hf⟩ := Option.bind_eq_some_iff.mp hf
  by_cases he : e0 = 0
  · rw [if_pos he] at hf
    subst he
    by_cases hs : (l.length : Int).toNat ≤ 35184372088832
    · rw [if_pos hs] at hf
      have hw : ∀ k_, (k_ = g ∨ k_ = bm ∨ some k_ = v.ownBlock) → P k_ := fun k_ hk => by
        rcases hk with rfl | rfl | hk
        · exact h.okg
        · exact h.okm
        · exact h.row.1 k_ hk.symm
      have hlt : ∀ k_, (k_ = g ∨ k_ = bm ∨ some k_ = v.ownBlock) → k_ < w.heap.size := fun k_ hk => by
        rcases hk with rfl | rfl | hk
        · exact blk_lt h.blk
        · exact blk_lt h.mp
        · exact Kd.R_lt h.row k_ hk.symm
      refine (term_Arena_Put.good k base _ g L m v bm A c l a0 L' m' r1 r2 w h.tight hle hlt (fun W hW => hr W (kept_wider hW hw)) hc hck hs hf).mono ?_
      rintro e w' ⟨v', he, hA, hB, hK⟩
      exact ⟨v', he, hA.mono (fun k_ hk => hk.imp (hw k_) id), hB, kept_wider hK hw⟩
    · rw [if_neg hs] at hf
      cases hf
  · rw [if_neg he] at hf
    simp only [Option.some.injEq, Prod.mk.injEq] at hf
    obtain ⟨rfl, rfl, rfl, rfl⟩ := hf
    refine (term_Arena_Put.bad k base P g L m v bm A c l e0 a0 w h (hr w (Kept.refl w P)) hc hck he).mono ?_
    rintro e w' ⟨he, hb⟩
    exact ⟨v, he, (h.below hb).mono (fun _ hk => .inl hk), hb.mono hle, Kept.below (Kept.refl w P) hb⟩

end Go.Proofs.Ytkindfbbklkjdaa.P
