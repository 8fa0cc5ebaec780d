/- word.Apply, by hand: an operation of two words. -/
import Derived.Test.YtidabafobpbniaaDoorGwa
import Derived.Test.YtidabafobpbniaaDoorGwb
import Derived.Test.YtidabafobpbniaaDoorGwc
import Derived.Test.YtidabafobpbniaaDoorGwd
import Derived.Test.YtidabafobpbniaaDoorGwe
import Derived.Test.YtidabafobpbniaaDoorGwf
namespace Go.Proofs.YtidabafobpbniaaDoor.P
open Go.RowKit Go.Proofs.YtidabafobpbniaaDoorW.PrintWords Go.Proofs.YtidabafobpbniaaDoorW.PrintLast Go.Proofs.YtidabafobpbniaaDoorW.PrintMore
set_option linter.unusedVariables false
set_option linter.unusedSimpArgs false
/-! ### word_Apply: function 11 -/
set_option maxHeartbeats 8000000 in
set_option maxRecDepth 100000 in
theorem word_Apply.opn (op w_ x y r w1 x1 y1 q r_ out : Int) (w : World) (a1 : word_width.f w_ = some w1) (a2 : word_Cut.f w1 x = some x1) (a3 : word_Cut.f w1 y = some y1) (hy : 0 ≤ y1) (a4 : word_parts.f w1 x1 y1 = some (q, r_)) (a5 : word_out op w1 x1 y1 q r_ = some out) (a6 : word_Cut.f w1 out = some r) (n5 : op ≠ 5) (n9 : op ≠ 9) (n8 : op ≠ 8) (n10 : op ≠ 10) (n11 : op ≠ 11) (n12 : op ≠ 12) (n13 : op ≠ 13) (n14 : op ≠ 14) (n15 : op ≠ 15) (n16 : op ≠ 16) (n17 : op ≠ 17) (n18 : op ≠ 18) (n19 : op ≠ 19) (n21 : op ≠ 21) (n20 : op ≠ 20) :
    Calls Tryd.prog 11 #[.int .i64 op, .int .i64 w_, .int .u64 x, .int .u64 y] w fun e w' => e = .returned (.int .u64 r) ∧ Below w.heap.size w w' := by
  have b5 : (op == 5) = false := beq_eq_false_iff_ne.mpr n5
  have b9 : (op == 9) = false := beq_eq_false_iff_ne.mpr n9
  have b8 : (op == 8) = false := beq_eq_false_iff_ne.mpr n8
  have b10 : (op == 10) = false := beq_eq_false_iff_ne.mpr n10
  have b11 : (op == 11) = false := beq_eq_false_iff_ne.mpr n11
  have b12 : (op == 12) = false := beq_eq_false_iff_ne.mpr n12
  have b13 : (op == 13) = false := beq_eq_false_iff_ne.mpr n13
  have b14 : (op == 14) = false := beq_eq_false_iff_ne.mpr n14
  have b15 : (op == 15) = false := beq_eq_false_iff_ne.mpr n15
  have b16 : (op == 16) = false := beq_eq_false_iff_ne.mpr n16
  have b17 : (op == 17) = false := beq_eq_false_iff_ne.mpr n17
  have b18 : (op == 18) = false := beq_eq_false_iff_ne.mpr n18
  have b19 : (op == 19) = false := beq_eq_false_iff_ne.mpr n19
  have b21 : (op == 21) = false := beq_eq_false_iff_ne.mpr n21
  have b20 : (op == 20) = false := beq_eq_false_iff_ne.mpr n20
  have HB := Aside0.mk (Below.refl w.heap.size w)
  have A1 := Aside0.mk a1
  have A2 := Aside0.mk a2
  have A3 := Aside0.mk a3
  have A4 := Aside0.mk a4
  have A5_ := Aside0.mk a5
  have A6 := Aside0.mk a6
  have A7 := Aside0.mk hy
  clear a1 a2 a3 a4 a5 a6 hy
  have hmf : ∀ (fn : Fn) (first cap : Array Value) (w : World), (Instr.makeFunc fn first cap).run Tryd.prog w = .ok (.func fn first cap) w := fun _ _ _ _ => rfl
  go_enter Tryd.func11, Tryd.ntmps11
  go_upto_region 3 with (first
      | ((with_reducible refine gate_dst (N := 6) rfl ?_); (try (refine gate_guard (by rfl) ?_; dsimp only)); refine box_event ?hg (N := 6) ?hd (cs := #[.int .u64 x]) (t := 22) ?hr ?_; (case hd => rfl); (case hg => rfl); (case hr => first | (go_simp; done) | (go_simp; rfl)); intro gb hg wb hbox hb; have n0 := Aside0.mk (below_step HB.out hb); have BK := Aside0.mk hbox; have HG := Aside0.mk (show w.heap.size ≤ gb by rw [hg]; exact below_size HB.out); clear HB hb hg hbox; have HB := n0; clear n0; have k0 := (blk_cell BK.out 0).trans rfl; have f0 := blk_frozen BK.out 0)
      | (go_at_call 32; (with_reducible refine (word_width.calls w_ w1 _ A1.out).mono ?_); rintro e w1_ ⟨rfl, hb⟩; clear A1; have n0 := Aside0.mk (below_step HB.out hb); have n1 := Aside0.mk (blk_below BK.out hb); (try clear k0 f0); clear HB BK; have HB := n0; have BK := n1; clear n0 n1; have k0 := (blk_cell BK.out 0).trans rfl; have f0 := blk_frozen BK.out 0; clear hb)
      | (go_at_call 33; (with_reducible refine (word_Cut.calls w1 x x1 _ A2.out).mono ?_); rintro e w1_ ⟨rfl, hb⟩; clear A2; have n0 := Aside0.mk (below_step HB.out hb); have n1 := Aside0.mk (blk_below BK.out hb); (try clear k0 f0); clear HB BK; have HB := n0; have BK := n1; clear n0 n1; have k0 := (blk_cell BK.out 0).trans rfl; have f0 := blk_frozen BK.out 0; clear hb)
      | (go_at_call 33; (with_reducible refine (word_Cut.calls w1 y y1 _ A3.out).mono ?_); rintro e w1_ ⟨rfl, hb⟩; clear A3; have n0 := Aside0.mk (below_step HB.out hb); have n1 := Aside0.mk (blk_below BK.out hb); (try clear k0 f0); clear HB BK; have HB := n0; have BK := n1; clear n0 n1; have k0 := (blk_cell BK.out 0).trans rfl; have f0 := blk_frozen BK.out 0; clear hb))
  obtain ⟨w3, hw⟩ : ∃ W, W = w1_.setCell ⟨gb, 0, none⟩ (.int .u64 x1) := ⟨_, rfl⟩
  rw [← hw]
  have n0 := Aside0.mk (show Below w.heap.size w w3 by rw [hw]; exact HB.out.setCell HG.out _)
  have n1 := Aside0.mk (show w3.heap[gb]? = some (.cells #[.int .u64 x1] 22 (0, 0)) by rw [hw]; exact blk_set BK.out 0 _)
  clear hw k0 f0 HB BK
  have HB := n0
  have BK := n1
  clear n0 n1
  have k0 := (blk_cell BK.out 0).trans rfl
  have f0 := blk_frozen BK.out 0
  go_upto_region 5 with (first | (go_at_call 34; (with_reducible refine (word_parts.calls w1 x1 y1 q r_ _ A4.out).mono ?_); rintro e w1_ ⟨rfl, hb⟩; clear A4; have n0 := Aside0.mk (below_step HB.out hb); have n1 := Aside0.mk (blk_below BK.out hb); (try clear k0 f0); clear HB BK; have HB := n0; have BK := n1; clear n0 n1; have k0 := (blk_cell BK.out 0).trans rfl; have f0 := blk_frozen BK.out 0; clear hb))
  have a5 := A5_.out
  unfold word_out at a5
  rw [if_neg n5, if_neg n9, if_neg n8, if_neg n10, if_neg n11, if_neg n12, if_neg n13, if_neg n14, if_neg n15, if_neg n16, if_neg n17, if_neg n18, if_neg n19, if_neg n21, if_neg n20] at a5
  clear A5_ n5 n9 n8 n10 n11 n12 n13 n14 n15 n16 n17 n18 n19 n21 n20
  obtain rfl := Option.some.inj a5
  clear a5
  go_wp2_with (first | (go_at_call 33; (with_reducible refine (word_Cut.calls w1 _ r _ A6.out).mono ?_); rintro e w1_ ⟨rfl, hb⟩; have n0 := Aside0.mk (below_step HB.out hb); have n1 := Aside0.mk (blk_below BK.out hb); (try clear k0 f0); clear HB BK; have HB := n0; have BK := n1; clear n0 n1; have k0 := (blk_cell BK.out 0).trans rfl; have f0 := blk_frozen BK.out 0; clear hb))
  go_ret
  exact ⟨rfl, HB.out⟩
theorem word_Apply.calls (op w_ x y r : Int) (w : World) (h : word_Apply.f op w_ x y = some r) :
    Calls Tryd.prog 11 #[.int .i64 op, .int .i64 w_, .int .u64 x, .int .u64 y] w fun e w' => e = .returned (.int .u64 r) ∧ Below w.heap.size w w' := by
  unfold word_Apply.f at h
  obtain ⟨w1, a1, h⟩ := Option.bind_eq_some_iff.mp h
  obtain ⟨x1, a2, h⟩ := Option.bind_eq_some_iff.mp h
  obtain ⟨y1, a3, h⟩ := Option.bind_eq_some_iff.mp h
  by_cases hy : 0 ≤ y1
  case neg => rw [if_neg hy] at h; cases h
  rw [if_pos hy] at h
  obtain ⟨⟨q, r_⟩, a4, h⟩ := Option.bind_eq_some_iff.mp h
  obtain ⟨out, a5, a6⟩ := Option.bind_eq_some_iff.mp h
  replace a5 : word_out op w1 x1 y1 q r_ = some out := a5
  replace a4 : word_parts.f w1 x1 y1 = some (q, r_) := a4
  by_cases n5 : op = 5
  · exact word_Apply.op5 op w_ x y r w1 x1 y1 q r_ out w a1 a2 a3 hy a4 a5 a6 n5
  by_cases n9 : op = 9
  · exact word_Apply.op9 op w_ x y r w1 x1 y1 q r_ out w a1 a2 a3 hy a4 a5 a6 n9
  by_cases n8 : op = 8
  · exact word_Apply.op8 op w_ x y r w1 x1 y1 q r_ out w a1 a2 a3 hy a4 a5 a6 n8
  by_cases n10 : op = 10
  · exact word_Apply.op10 op w_ x y r w1 x1 y1 q r_ out w a1 a2 a3 hy a4 a5 a6 n10
  by_cases n11 : op = 11
  · exact word_Apply.op11 op w_ x y r w1 x1 y1 q r_ out w a1 a2 a3 hy a4 a5 a6 n11
  by_cases n12 : op = 12
  · exact word_Apply.op12 op w_ x y r w1 x1 y1 q r_ out w a1 a2 a3 hy a4 a5 a6 n12
  by_cases n13 : op = 13
  · exact word_Apply.op13 op w_ x y r w1 x1 y1 q r_ out w a1 a2 a3 hy a4 a5 a6 n13
  by_cases n14 : op = 14
  · exact word_Apply.op14 op w_ x y r w1 x1 y1 q r_ out w a1 a2 a3 hy a4 a5 a6 n14
  by_cases n15 : op = 15
  · exact word_Apply.op15 op w_ x y r w1 x1 y1 q r_ out w a1 a2 a3 hy a4 a5 a6 n15
  by_cases n16 : op = 16
  · exact word_Apply.op16 op w_ x y r w1 x1 y1 q r_ out w a1 a2 a3 hy a4 a5 a6 n16
  by_cases n17 : op = 17
  · exact word_Apply.op17 op w_ x y r w1 x1 y1 q r_ out w a1 a2 a3 hy a4 a5 a6 n17
  by_cases n18 : op = 18
  · exact word_Apply.op18 op w_ x y r w1 x1 y1 q r_ out w a1 a2 a3 hy a4 a5 a6 n18
  by_cases n19 : op = 19
  · exact word_Apply.op19 op w_ x y r w1 x1 y1 q r_ out w a1 a2 a3 hy a4 a5 a6 n19
  by_cases n21 : op = 21
  · exact word_Apply.op21 op w_ x y r w1 x1 y1 q r_ out w a1 a2 a3 hy a4 a5 a6 n21
  by_cases n20 : op = 20
  · exact word_Apply.op20 op w_ x y r w1 x1 y1 q r_ out w a1 a2 a3 hy a4 a5 a6 n20
  exact word_Apply.opn op w_ x y r w1 x1 y1 q r_ out w a1 a2 a3 hy a4 a5 a6 n5 n9 n8 n10 n11 n12 n13 n14 n15 n16 n17 n18 n19 n21 n20

end Go.Proofs.YtidabafobpbniaaDoor.P
