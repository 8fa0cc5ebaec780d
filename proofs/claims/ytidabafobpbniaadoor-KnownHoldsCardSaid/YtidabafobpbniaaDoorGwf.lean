/- word.Apply, by hand: operations of two words, walked. -/
import Derived.Test.YtidabafobpbniaaDoorGw0
namespace Go.Proofs.YtidabafobpbniaaDoor.P
open Go.RowKit Go.Proofs.YtidabafobpbniaaDoorW.PrintWords Go.Proofs.YtidabafobpbniaaDoorW.PrintLast Go.Proofs.YtidabafobpbniaaDoorW.PrintMore
set_option linter.unusedVariables false
set_option linter.unusedSimpArgs false
set_option maxHeartbeats 8000000 in
set_option maxRecDepth 100000 in
theorem word_Apply.op18p (op w_ x y r w1 x1 y1 q r_ out : Int) (w : World) (a1 : word_width.f w_ = some w1) (a2 : word_Cut.f w1 x = some x1) (a3 : word_Cut.f w1 y = some y1) (hy : 0 ≤ y1) (a4 : word_parts.f w1 x1 y1 = some (q, r_)) (a5 : word_out op w1 x1 y1 q r_ = some out) (a6 : word_Cut.f w1 out = some r) (ho : op = 18) (cs : y1 ≥ IntKind.u64.wrap w1) :
    Calls Tryd.prog 11 #[.int .i64 op, .int .i64 w_, .int .u64 x, .int .u64 y] w fun e w' => e = .returned (.int .u64 r) ∧ Below w.heap.size w w' := by
  have HO := Aside0.mk ho
  clear ho
  have CS := Aside0.mk cs
  clear cs
  have HB := Aside0.mk (Below.refl w.heap.size w)
  have A1 := Aside0.mk a1
  have A2 := Aside0.mk a2
  have A3 := Aside0.mk a3
  have A4 := Aside0.mk a4
  have A5_ := Aside0.mk a5
  have A6 := Aside0.mk a6
  have A7 := Aside0.mk hy
  clear a1 a2 a3 a4 a5 a6 hy
  have hmf : ∀ (fn : Fn) (first cap : Array Value) (w : World), (Instr.makeFunc fn first cap).run Tryd.prog w = .ok (.func fn first cap) w := fun _ _ _ _ => rfl
  go_enter Tryd.func11, Tryd.ntmps11
  go_upto_region 3 with (first
      | ((with_reducible refine gate_dst (N := 6) rfl ?_); (try (refine gate_guard (by rfl) ?_; dsimp only)); refine box_event ?hg (N := 6) ?hd (cs := #[.int .u64 x]) (t := 22) ?hr ?_; (case hd => rfl); (case hg => rfl); (case hr => first | (go_simp; done) | (go_simp; rfl)); intro gb hg wb hbox hb; have n0 := Aside0.mk (below_step HB.out hb); have BK := Aside0.mk hbox; have HG := Aside0.mk (show w.heap.size ≤ gb by rw [hg]; exact below_size HB.out); clear HB hb hg hbox; have HB := n0; clear n0; have k0 := (blk_cell BK.out 0).trans rfl; have f0 := blk_frozen BK.out 0)
      | (go_at_call 32; (with_reducible refine (word_width.calls w_ w1 _ A1.out).mono ?_); rintro e w1_ ⟨rfl, hb⟩; clear A1; have n0 := Aside0.mk (below_step HB.out hb); have n1 := Aside0.mk (blk_below BK.out hb); (try clear k0 f0); clear HB BK; have HB := n0; have BK := n1; clear n0 n1; have k0 := (blk_cell BK.out 0).trans rfl; have f0 := blk_frozen BK.out 0; clear hb)
      | (go_at_call 33; (with_reducible refine (word_Cut.calls w1 x x1 _ A2.out).mono ?_); rintro e w1_ ⟨rfl, hb⟩; clear A2; have n0 := Aside0.mk (below_step HB.out hb); have n1 := Aside0.mk (blk_below BK.out hb); (try clear k0 f0); clear HB BK; have HB := n0; have BK := n1; clear n0 n1; have k0 := (blk_cell BK.out 0).trans rfl; have f0 := blk_frozen BK.out 0; clear hb)
      | (go_at_call 33; (with_reducible refine (word_Cut.calls w1 y y1 _ A3.out).mono ?_); rintro e w1_ ⟨rfl, hb⟩; clear A3; have n0 := Aside0.mk (below_step HB.out hb); have n1 := Aside0.mk (blk_below BK.out hb); (try clear k0 f0); clear HB BK; have HB := n0; have BK := n1; clear n0 n1; have k0 := (blk_cell BK.out 0).trans rfl; have f0 := blk_frozen BK.out 0; clear hb))
  obtain ⟨w3, hw⟩ : ∃ W, W = w1_.setCell ⟨gb, 0, none⟩ (.int .u64 x1) := ⟨_, rfl⟩
  rw [← hw]
  have n0 := Aside0.mk (show Below w.heap.size w w3 by rw [hw]; exact HB.out.setCell HG.out _)
  have n1 := Aside0.mk (show w3.heap[gb]? = some (.cells #[.int .u64 x1] 22 (0, 0)) by rw [hw]; exact blk_set BK.out 0 _)
  clear hw k0 f0 HB BK
  have HB := n0
  have BK := n1
  clear n0 n1
  have k0 := (blk_cell BK.out 0).trans rfl
  have f0 := blk_frozen BK.out 0
  go_upto_region 5 with (first | (go_at_call 34; (with_reducible refine (word_parts.calls w1 x1 y1 q r_ _ A4.out).mono ?_); rintro e w1_ ⟨rfl, hb⟩; clear A4; have n0 := Aside0.mk (below_step HB.out hb); have n1 := Aside0.mk (blk_below BK.out hb); (try clear k0 f0); clear HB BK; have HB := n0; have BK := n1; clear n0 n1; have k0 := (blk_cell BK.out 0).trans rfl; have f0 := blk_frozen BK.out 0; clear hb))
  have b5 : (op == 5) = false := by rw [HO.out]; rfl
  have b9 : (op == 9) = false := by rw [HO.out]; rfl
  have b8 : (op == 8) = false := by rw [HO.out]; rfl
  have b10 : (op == 10) = false := by rw [HO.out]; rfl
  have b11 : (op == 11) = false := by rw [HO.out]; rfl
  have b12 : (op == 12) = false := by rw [HO.out]; rfl
  have b13 : (op == 13) = false := by rw [HO.out]; rfl
  have b14 : (op == 14) = false := by rw [HO.out]; rfl
  have b15 : (op == 15) = false := by rw [HO.out]; rfl
  have b16 : (op == 16) = false := by rw [HO.out]; rfl
  have b17 : (op == 17) = false := by rw [HO.out]; rfl
  have ho := HO.out
  clear HO
  subst ho
  have a5 := A5_.out
  unfold word_out at a5
  rw [if_neg (by decide), if_neg (by decide), if_neg (by decide), if_neg (by decide), if_neg (by decide), if_neg (by decide), if_neg (by decide), if_neg (by decide), if_neg (by decide), if_neg (by decide), if_neg (by decide), if_pos rfl] at a5
  clear A5_
  obtain ⟨s, a8, a5⟩ := Option.bind_eq_some_iff.mp a5
  have A8 := Aside0.mk a8
  clear a8
  have cs := CS.out; clear CS
  rw [if_pos cs] at a5
  have cb : decide (IntKind.u64.wrap w1 ≤ y1) = true := decide_eq_true cs
  obtain rfl := Option.some.inj a5
  clear a5 cs
  go_wp2_with (first | (go_at_call 38; (with_reducible refine (word_Sign.calls w1 x1 s _ A8.out).mono ?_); rintro e w1_ ⟨rfl, hb⟩; have n0 := Aside0.mk (below_step HB.out hb); have n1 := Aside0.mk (blk_below BK.out hb); (try clear k0 f0); clear HB BK; have HB := n0; have BK := n1; clear n0 n1; have k0 := (blk_cell BK.out 0).trans rfl; have f0 := blk_frozen BK.out 0; clear hb) | (go_at_call 33; (with_reducible refine (word_Cut.calls w1 _ r _ A6.out).mono ?_); rintro e w2_ ⟨rfl, hb⟩; have n0 := Aside0.mk (below_step (below_alloc HB.out _) hb); clear HB; have HB := n0; clear n0 hb) | go_in)
  go_ret
  exact ⟨rfl, HB.out⟩
set_option maxHeartbeats 8000000 in
set_option maxRecDepth 100000 in
theorem word_Apply.op18n (op w_ x y r w1 x1 y1 q r_ out : Int) (w : World) (a1 : word_width.f w_ = some w1) (a2 : word_Cut.f w1 x = some x1) (a3 : word_Cut.f w1 y = some y1) (hy : 0 ≤ y1) (a4 : word_parts.f w1 x1 y1 = some (q, r_)) (a5 : word_out op w1 x1 y1 q r_ = some out) (a6 : word_Cut.f w1 out = some r) (ho : op = 18) (cs : ¬ y1 ≥ IntKind.u64.wrap w1) :
    Calls Tryd.prog 11 #[.int .i64 op, .int .i64 w_, .int .u64 x, .int .u64 y] w fun e w' => e = .returned (.int .u64 r) ∧ Below w.heap.size w w' := by
  have HO := Aside0.mk ho
  clear ho
  have CS := Aside0.mk cs
  clear cs
  have HB := Aside0.mk (Below.refl w.heap.size w)
  have A1 := Aside0.mk a1
  have A2 := Aside0.mk a2
  have A3 := Aside0.mk a3
  have A4 := Aside0.mk a4
  have A5_ := Aside0.mk a5
  have A6 := Aside0.mk a6
  have A7 := Aside0.mk hy
  clear a1 a2 a3 a4 a5 a6 hy
  have hmf : ∀ (fn : Fn) (first cap : Array Value) (w : World), (Instr.makeFunc fn first cap).run Tryd.prog w = .ok (.func fn first cap) w := fun _ _ _ _ => rfl
  go_enter Tryd.func11, Tryd.ntmps11
  go_upto_region 3 with (first
      | ((with_reducible refine gate_dst (N := 6) rfl ?_); (try (refine gate_guard (by rfl) ?_; dsimp only)); refine box_event ?hg (N := 6) ?hd (cs := #[.int .u64 x]) (t := 22) ?hr ?_; (case hd => rfl); (case hg => rfl); (case hr => first | (go_simp; done) | (go_simp; rfl)); intro gb hg wb hbox hb; have n0 := Aside0.mk (below_step HB.out hb); have BK := Aside0.mk hbox; have HG := Aside0.mk (show w.heap.size ≤ gb by rw [hg]; exact below_size HB.out); clear HB hb hg hbox; have HB := n0; clear n0; have k0 := (blk_cell BK.out 0).trans rfl; have f0 := blk_frozen BK.out 0)
      | (go_at_call 32; (with_reducible refine (word_width.calls w_ w1 _ A1.out).mono ?_); rintro e w1_ ⟨rfl, hb⟩; clear A1; have n0 := Aside0.mk (below_step HB.out hb); have n1 := Aside0.mk (blk_below BK.out hb); (try clear k0 f0); clear HB BK; have HB := n0; have BK := n1; clear n0 n1; have k0 := (blk_cell BK.out 0).trans rfl; have f0 := blk_frozen BK.out 0; clear hb)
      | (go_at_call 33; (with_reducible refine (word_Cut.calls w1 x x1 _ A2.out).mono ?_); rintro e w1_ ⟨rfl, hb⟩; clear A2; have n0 := Aside0.mk (below_step HB.out hb); have n1 := Aside0.mk (blk_below BK.out hb); (try clear k0 f0); clear HB BK; have HB := n0; have BK := n1; clear n0 n1; have k0 := (blk_cell BK.out 0).trans rfl; have f0 := blk_frozen BK.out 0; clear hb)
      | (go_at_call 33; (with_reducible refine (word_Cut.calls w1 y y1 _ A3.out).mono ?_); rintro e w1_ ⟨rfl, hb⟩; clear A3; have n0 := Aside0.mk (below_step HB.out hb); have n1 := Aside0.mk (blk_below BK.out hb); (try clear k0 f0); clear HB BK; have HB := n0; have BK := n1; clear n0 n1; have k0 := (blk_cell BK.out 0).trans rfl; have f0 := blk_frozen BK.out 0; clear hb))
  obtain ⟨w3, hw⟩ : ∃ W, W = w1_.setCell ⟨gb, 0, none⟩ (.int .u64 x1) := ⟨_, rfl⟩
  rw [← hw]
  have n0 := Aside0.mk (show Below w.heap.size w w3 by rw [hw]; exact HB.out.setCell HG.out _)
  have n1 := Aside0.mk (show w3.heap[gb]? = some (.cells #[.int .u64 x1] 22 (0, 0)) by rw [hw]; exact blk_set BK.out 0 _)
  clear hw k0 f0 HB BK
  have HB := n0
  have BK := n1
  clear n0 n1
  have k0 := (blk_cell BK.out 0).trans rfl
  have f0 := blk_frozen BK.out 0
  go_upto_region 5 with (first | (go_at_call 34; (with_reducible refine (word_parts.calls w1 x1 y1 q r_ _ A4.out).mono ?_); rintro e w1_ ⟨rfl, hb⟩; clear A4; have n0 := Aside0.mk (below_step HB.out hb); have n1 := Aside0.mk (blk_below BK.out hb); (try clear k0 f0); clear HB BK; have HB := n0; have BK := n1; clear n0 n1; have k0 := (blk_cell BK.out 0).trans rfl; have f0 := blk_frozen BK.out 0; clear hb))
  have b5 : (op == 5) = false := by rw [HO.out]; rfl
  have b9 : (op == 9) = false := by rw [HO.out]; rfl
  have b8 : (op == 8) = false := by rw [HO.out]; rfl
  have b10 : (op == 10) = false := by rw [HO.out]; rfl
  have b11 : (op == 11) = false := by rw [HO.out]; rfl
  have b12 : (op == 12) = false := by rw [HO.out]; rfl
  have b13 : (op == 13) = false := by rw [HO.out]; rfl
  have b14 : (op == 14) = false := by rw [HO.out]; rfl
  have b15 : (op == 15) = false := by rw [HO.out]; rfl
  have b16 : (op == 16) = false := by rw [HO.out]; rfl
  have b17 : (op == 17) = false := by rw [HO.out]; rfl
  have ho := HO.out
  clear HO
  subst ho
  have a5 := A5_.out
  unfold word_out at a5
  rw [if_neg (by decide), if_neg (by decide), if_neg (by decide), if_neg (by decide), if_neg (by decide), if_neg (by decide), if_neg (by decide), if_neg (by decide), if_neg (by decide), if_neg (by decide), if_neg (by decide), if_pos rfl] at a5
  clear A5_
  obtain ⟨s, a8, a5⟩ := Option.bind_eq_some_iff.mp a5
  have A8 := Aside0.mk a8
  clear a8
  have cs : ¬ y1 ≥ IntKind.u64.wrap w1 := (by have := CS.out; omega); clear CS
  rw [if_neg cs] at a5
  have cb : decide (IntKind.u64.wrap w1 ≤ y1) = false := decide_eq_false cs
  have hy0 := eq_true A7.out
  obtain ⟨z, hz⟩ : ∃ z, shr .i64 s y1 = z := ⟨_, rfl⟩
  rw [hz] at a5
  have e5_ : s / 2 ^ min y1.toNat 64 = z := hz
  have e5z := shr_small hz
  have e5 := Option.some.inj a5
  clear a5 cs hz
  go_wp2_with (first | (go_at_call 38; (with_reducible refine (word_Sign.calls w1 x1 s _ A8.out).mono ?_); rintro e w1_ ⟨rfl, hb⟩; have n0 := Aside0.mk (below_step HB.out hb); have n1 := Aside0.mk (blk_below BK.out hb); (try clear k0 f0); clear HB BK; have HB := n0; have BK := n1; clear n0 n1; have k0 := (blk_cell BK.out 0).trans rfl; have f0 := blk_frozen BK.out 0; clear hb) | (go_at_call 33; (with_reducible refine (word_Cut.calls w1 _ r _ A6.out).mono ?_); rintro e w2_ ⟨rfl, hb⟩; have n0 := Aside0.mk (below_step (below_alloc HB.out _) hb); clear HB; have HB := n0; clear n0 hb) | go_in)
  go_ret
  exact ⟨rfl, HB.out⟩
theorem word_Apply.op18 (op w_ x y r w1 x1 y1 q r_ out : Int) (w : World) (a1 : word_width.f w_ = some w1) (a2 : word_Cut.f w1 x = some x1) (a3 : word_Cut.f w1 y = some y1) (hy : 0 ≤ y1) (a4 : word_parts.f w1 x1 y1 = some (q, r_)) (a5 : word_out op w1 x1 y1 q r_ = some out) (a6 : word_Cut.f w1 out = some r) (ho : op = 18) :
    Calls Tryd.prog 11 #[.int .i64 op, .int .i64 w_, .int .u64 x, .int .u64 y] w fun e w' => e = .returned (.int .u64 r) ∧ Below w.heap.size w w' := by
  by_cases cs : y1 ≥ IntKind.u64.wrap w1
  · exact word_Apply.op18p op w_ x y r w1 x1 y1 q r_ out w a1 a2 a3 hy a4 a5 a6 ho cs
  · exact word_Apply.op18n op w_ x y r w1 x1 y1 q r_ out w a1 a2 a3 hy a4 a5 a6 ho cs

end Go.Proofs.YtidabafobpbniaaDoor.P
