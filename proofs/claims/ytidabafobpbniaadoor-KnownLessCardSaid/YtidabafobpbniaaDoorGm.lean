/- known's pair.moved, by hand: a method value is called. -/
import Derived.Test.YtidabafobpbniaaDoorPx6
import Derived.Test.YtidabafobpbniaaDoorPx5
import Derived.Test.YtidabafobpbniaaDoorPx21
import Derived.Test.YtidabafobpbniaaDoorPx19
import Derived.Test.YtidabafobpbniaaDoorPx20
import Derived.Deep.RegionHeld3
import Derived.Outline
namespace Go.Proofs.YtidabafobpbniaaDoor.P
open Go.RowKit Go.Proofs.YtidabafobpbniaaDoorW.PrintWords Go.Proofs.YtidabafobpbniaaDoorW.PrintLast Go.Proofs.YtidabafobpbniaaDoorW.PrintMore
set_option linter.unusedVariables false
set_option linter.unusedSimpArgs false

def known_moved_on (p0 p1 p2 op s : Int) : Option (Int × Int) :=
  if op = 18 then (if IntKind.u64.wrap p2 ≤ s then known_wide_sign.f p0 p1 p2 (IntKind.u64.wrap (wrap64 (p2 - 1))) else known_wide_sign.f p0 p1 p2 s)
  else if IntKind.u64.wrap p2 ≤ s then known_Of.f p2 0
  else if op = 16 then known_wide_up.f p0 p1 p2 s else known_wide_down.f p0 p1 p2 s
/-- A shift by what is known. -/
def known_pair_moved.f (p0 p1 p2 p3 p4 p5 op : Int) : Option (Int × Int) :=
  (known_Num.f p2 p3 p4).bind fun s => if s.2 = false then some (0, 0) else known_moved_on p0 p1 p2 op s.1
structure MovedSt (w w' : World) (b2 b4 : Nat) (p0 p1 p2 p3 p4 p5 : Int) : Prop where
  h2 : w'.heap[b2]? = some (.cells #[.int .u64 p0, .int .u64 p1, .int .i64 p2, .int .u64 p3, .int .u64 p4, .int .i64 p5] 75 (0, 0))
  h4 : w'.heap[b4]? = some (.cells #[.int .u64 0, .int .u64 0] 24 (0, 0))
  hb : Below w.heap.size w w'
  hg : w.heap.size ≤ b4
section
variable {w w' w'' : World} {b2 b4 : Nat} {p0 p1 p2 p3 p4 p5 : Int}
theorem MovedSt.below (s : MovedSt w w' b2 b4 p0 p1 p2 p3 p4 p5) (h : Below w'.heap.size w' w'') : MovedSt w w'' b2 b4 p0 p1 p2 p3 p4 p5 := ⟨blk_below s.h2 h, blk_below s.h4 h, below_step s.hb h, s.hg⟩
theorem MovedSt.c20 (s : MovedSt w w' b2 b4 p0 p1 p2 p3 p4 p5) : w'.cell? ⟨b2, 0, none⟩ = some (.int .u64 p0) := blk_cell s.h2 0
theorem MovedSt.c21 (s : MovedSt w w' b2 b4 p0 p1 p2 p3 p4 p5) : w'.cell? ⟨b2, 1, none⟩ = some (.int .u64 p1) := blk_cell s.h2 1
theorem MovedSt.c22 (s : MovedSt w w' b2 b4 p0 p1 p2 p3 p4 p5) : w'.cell? ⟨b2, 2, none⟩ = some (.int .i64 p2) := blk_cell s.h2 2
theorem MovedSt.c23 (s : MovedSt w w' b2 b4 p0 p1 p2 p3 p4 p5) : w'.cell? ⟨b2, 3, none⟩ = some (.int .u64 p3) := blk_cell s.h2 3
theorem MovedSt.c24 (s : MovedSt w w' b2 b4 p0 p1 p2 p3 p4 p5) : w'.cell? ⟨b2, 4, none⟩ = some (.int .u64 p4) := blk_cell s.h2 4
theorem MovedSt.c25 (s : MovedSt w w' b2 b4 p0 p1 p2 p3 p4 p5) : w'.cell? ⟨b2, 5, none⟩ = some (.int .i64 p5) := blk_cell s.h2 5
theorem MovedSt.c40 (s : MovedSt w w' b2 b4 p0 p1 p2 p3 p4 p5) : w'.cell? ⟨b4, 0, none⟩ = some (.int .u64 0) := blk_cell s.h4 0
theorem MovedSt.f40 (s : MovedSt w w' b2 b4 p0 p1 p2 p3 p4 p5) : w'.frozen? ⟨b4, 0, none⟩ = false := blk_frozen s.h4 0
theorem MovedSt.c41 (s : MovedSt w w' b2 b4 p0 p1 p2 p3 p4 p5) : w'.cell? ⟨b4, 1, none⟩ = some (.int .u64 0) := blk_cell s.h4 1
theorem MovedSt.f41 (s : MovedSt w w' b2 b4 p0 p1 p2 p3 p4 p5) : w'.frozen? ⟨b4, 1, none⟩ = false := blk_frozen s.h4 1
end
set_option maxHeartbeats 8000000 in
set_option maxRecDepth 100000 in
theorem known_pair_moved.unknown (p0 p1 p2 p3 p4 p5 op s r0 r1 : Int) (w : World) (a1 : known_Num.f p2 p3 p4 = some (s, false)) :
    Calls Tryd.prog 57 #[.agg #[.int .u64 p0, .int .u64 p1, .int .i64 p2, .int .u64 p3, .int .u64 p4, .int .i64 p5], .int .i64 op] w fun e w' => e = .returned (.agg #[.int .u64 0, .int .u64 0]) ∧ Below w.heap.size w w' := by
  have hu := Tryd.underlying75
  have hu2 := Tryd.underlying73
  have hu3 := Tryd.underlying24
  have HB := Aside0.mk (Below.refl w.heap.size w)
  have A1 := Aside0.mk a1
  clear a1
  have hmf : ∀ (fn : Fn) (first cap : Array Value) (w : World), (Instr.makeFunc fn first cap).run Tryd.prog w = .ok (.func fn first cap) w := fun _ _ _ _ => rfl
  go_enter Tryd.func57, Tryd.ntmps57
  go_wp2_with (first
      | ((with_reducible refine gate_dst (N := 2) rfl ?_); (try (refine gate_guard (by rfl) ?_; dsimp only)); refine box_event ?hg (N := 2) ?hd (cs := #[.int .u64 p0, .int .u64 p1, .int .i64 p2, .int .u64 p3, .int .u64 p4, .int .i64 p5]) (t := 75) ?hr ?_; (case hd => rfl); (case hg => rfl); (case hr => first | (go_simp; done) | (go_simp; rfl)); intro gb2 hg wb2 hbox hb; have n0 := Aside0.mk (below_step HB.out hb); have BK2 := Aside0.mk hbox; clear HB hb hg hbox; have HB := n0; clear n0)
      | ((with_reducible refine gate_dst (N := 4) rfl ?_); (try (refine gate_guard (by rfl) ?_; dsimp only)); refine box_event ?hg (N := 4) ?hd (cs := #[.int .u64 0, .int .u64 0]) (t := 24) ?hr ?_; (case hd => rfl); (case hg => rfl); (case hr => first | (go_simp; done) | (go_simp; rfl)); intro gb4 hg wb4 hbox hb; have HS := Aside0.mk (MovedSt.mk (p0 := p0) (p1 := p1) (p2 := p2) (p3 := p3) (p4 := p4) (p5 := p5) (blk_below BK2.out hb) hbox (below_step HB.out hb) (by rw [hg]; exact below_size HB.out)); clear HB BK2 hb hg hbox; have k20 := HS.out.c20; have k21 := HS.out.c21; have k22 := HS.out.c22; have k23 := HS.out.c23; have k24 := HS.out.c24; have k25 := HS.out.c25; have k40 := HS.out.c40; have k41 := HS.out.c41; have f40 := HS.out.f40; have f41 := HS.out.f41)
      | (go_at_call 13; (with_reducible refine (known_Num.calls p2 p3 p4 s false _ A1.out).mono ?_); rintro e w1_ ⟨rfl, hb⟩; have n0 := Aside0.mk (HS.out.below hb); clear HS hb k20 k21 k22 k23 k24 k25 k40 k41 f40 f41; have HS := n0; clear n0; have k20 := HS.out.c20; have k21 := HS.out.c21; have k22 := HS.out.c22; have k23 := HS.out.c23; have k24 := HS.out.c24; have k25 := HS.out.c25; have k40 := HS.out.c40; have k41 := HS.out.c41; have f40 := HS.out.f40; have f41 := HS.out.f41))
  refine bodyPost_ret (results_cell_row rfl _ _ gb4 24 #[.int .u64 0, .int .u64 0] (0, 0) _ rfl (by refine blk_put (cs := #[.int .u64 0, .int .u64 0]) ?_ 1 _ rfl; refine blk_put (cs := #[.int .u64 0, .int .u64 0]) ?_ 0 _ rfl; exact HS.out.h4) Tryd.underlying24 rfl (by kernel_rfl)) rfl ?_
  exact ⟨rfl, below_set (below_set HS.out.hb HS.out.hg) HS.out.hg⟩
set_option maxHeartbeats 8000000 in
set_option maxRecDepth 100000 in
theorem known_pair_moved.signFar (p0 p1 p2 p3 p4 p5 op s r0 r1 : Int) (w : World) (a1 : known_Num.f p2 p3 p4 = some (s, true)) (cs : IntKind.u64.wrap p2 ≤ s) (a2 : known_wide_sign.f p0 p1 p2 (IntKind.u64.wrap (wrap64 (p2 - 1))) = some (r0, r1)) :
    Calls Tryd.prog 57 #[.agg #[.int .u64 p0, .int .u64 p1, .int .i64 p2, .int .u64 p3, .int .u64 p4, .int .i64 p5], .int .i64 18] w fun e w' => e = .returned (.agg #[.int .u64 r0, .int .u64 r1]) ∧ Below w.heap.size w w' := by
  have hu := Tryd.underlying75
  have hu2 := Tryd.underlying73
  have hu3 := Tryd.underlying24
  have HB := Aside0.mk (Below.refl w.heap.size w)
  have A1 := Aside0.mk a1
  clear a1
  have hmf : ∀ (fn : Fn) (first cap : Array Value) (w : World), (Instr.makeFunc fn first cap).run Tryd.prog w = .ok (.func fn first cap) w := fun _ _ _ _ => rfl
  have cb : decide (IntKind.u64.wrap p2 ≤ s) = true := decide_eq_true cs
  clear cs
  have A2 := Aside0.mk a2
  clear a2
  go_enter Tryd.func57, Tryd.ntmps57
  go_upto_region 7 with (first
      | ((with_reducible refine gate_dst (N := 2) rfl ?_); (try (refine gate_guard (by rfl) ?_; dsimp only)); refine box_event ?hg (N := 2) ?hd (cs := #[.int .u64 p0, .int .u64 p1, .int .i64 p2, .int .u64 p3, .int .u64 p4, .int .i64 p5]) (t := 75) ?hr ?_; (case hd => rfl); (case hg => rfl); (case hr => first | (go_simp; done) | (go_simp; rfl)); intro gb2 hg wb2 hbox hb; have n0 := Aside0.mk (below_step HB.out hb); have BK2 := Aside0.mk hbox; clear HB hb hg hbox; have HB := n0; clear n0)
      | ((with_reducible refine gate_dst (N := 4) rfl ?_); (try (refine gate_guard (by rfl) ?_; dsimp only)); refine box_event ?hg (N := 4) ?hd (cs := #[.int .u64 0, .int .u64 0]) (t := 24) ?hr ?_; (case hd => rfl); (case hg => rfl); (case hr => first | (go_simp; done) | (go_simp; rfl)); intro gb4 hg wb4 hbox hb; have HS := Aside0.mk (MovedSt.mk (p0 := p0) (p1 := p1) (p2 := p2) (p3 := p3) (p4 := p4) (p5 := p5) (blk_below BK2.out hb) hbox (below_step HB.out hb) (by rw [hg]; exact below_size HB.out)); clear HB BK2 hb hg hbox; have k20 := HS.out.c20; have k21 := HS.out.c21; have k22 := HS.out.c22; have k23 := HS.out.c23; have k24 := HS.out.c24; have k25 := HS.out.c25; have k40 := HS.out.c40; have k41 := HS.out.c41; have f40 := HS.out.f40; have f41 := HS.out.f41)
      | (go_at_call 13; (with_reducible refine (known_Num.calls p2 p3 p4 s true _ A1.out).mono ?_); rintro e w1_ ⟨rfl, hb⟩; have n0 := Aside0.mk (HS.out.below hb); clear HS hb k20 k21 k22 k23 k24 k25 k40 k41 f40 f41; have HS := n0; clear n0; have k20 := HS.out.c20; have k21 := HS.out.c21; have k22 := HS.out.c22; have k23 := HS.out.c23; have k24 := HS.out.c24; have k25 := HS.out.c25; have k40 := HS.out.c40; have k41 := HS.out.c41; have f40 := HS.out.f40; have f41 := HS.out.f41))
  clear k20 k21 k22 k23 k24 k25 k40 k41 f40 f41
  have n0 := Aside0.mk (HS.out.below (below_drew1 (Below.refl _ _)))
  clear HS
  have HS := n0
  clear n0
  refine start_ (n := 10) (S := fun w' => w'.cell? ⟨gb2, 0, none⟩ = some (.int .u64 p0) ∧ w'.cell? ⟨gb2, 1, none⟩ = some (.int .u64 p1) ∧ w'.cell? ⟨gb2, 2, none⟩ = some (.int .i64 p2)) (ds := []) #[false, false, false, false, false, false, false, false, false, false] (by kernel_rfl) rfl rfl ⟨HS.out.c20, HS.out.c21, HS.out.c22⟩ (fun hHeld => ?_)
  refine pure_ (i := 0) (N := some 37) (v := ?_) (a' := ?_) #[true, false, false, false, false, false, false, false, false, false] rfl rfl (by kernel_rfl) (fun _ _ _ h => h) (Or.inl ⟨by rfl, ?_⟩) ?_ ?_
  rotate_left
  · intro w'
    go_simp
    with_reducible rfl
  rotate_left
  · simp only [Act.put, List.setIfInBounds_toArray, List.set_cons_zero, List.set_cons_succ, i64_w, i32_w]
    rfl
  refine pure_ (i := 3) (N := some 40) (v := ?_) (a' := ?_) #[true, false, false, true, false, false, false, false, false, false] rfl rfl (by kernel_rfl) (fun _ _ _ h => h) (Or.inl ⟨by rfl, ?_⟩) ?_ ?_
  rotate_left
  · intro w'
    go_simp
    with_reducible rfl
  rotate_left
  · simp only [Act.put, List.setIfInBounds_toArray, List.set_cons_zero, List.set_cons_succ, i64_w, i32_w]
    rfl
  refine pure_ (i := 4) (N := some 41) (v := ?_) (a' := ?_) #[true, false, false, true, true, false, false, false, false, false] rfl rfl (by kernel_rfl) (fun _ _ _ h => h) (Or.inl ⟨by rfl, ?_⟩) ?_ ?_
  rotate_left
  · intro w'
    go_simp
    with_reducible rfl
  rotate_left
  · simp only [Act.put, List.setIfInBounds_toArray, List.set_cons_zero, List.set_cons_succ, i64_w, i32_w]
    rfl
  refine take_ (i := 1) (N := some 38) (v := ?_) (a' := ?_) #[true, true, false, true, true, false, false, false, false, false] rfl rfl (by kernel_rfl) (fun _ _ _ h => h) (Or.inl ⟨by rfl, ?_⟩) hHeld ?_ ?_
  rotate_left
  · rintro w' ⟨s0, s1, s2⟩
    go_simp
    with_reducible rfl
  rotate_left
  · simp only [Act.put, List.setIfInBounds_toArray, List.set_cons_zero, List.set_cons_succ, i64_w, i32_w]
    rfl
  refine pure_ (i := 2) (N := some 39) (v := ?_) (a' := ?_) #[true, true, true, true, true, false, false, false, false, false] rfl rfl (by kernel_rfl) (fun _ _ _ h => h) (Or.inl ⟨by rfl, ?_⟩) ?_ ?_
  rotate_left
  · intro w'
    go_simp
    with_reducible rfl
  rotate_left
  · simp only [Act.put, List.setIfInBounds_toArray, List.set_cons_zero, List.set_cons_succ, i64_w, i32_w]
    rfl
  refine pure_ (i := 8) (N := some 8) (v := ?_) (a' := ?_) #[true, true, true, true, true, false, false, false, true, false] rfl rfl (by kernel_rfl) (fun _ _ _ h => h) (Or.inl ⟨by rfl, ?_⟩) ?_ ?_
  rotate_left
  · intro w'
    go_simp
    with_reducible rfl
  rotate_left
  · simp only [Act.put, List.setIfInBounds_toArray, List.set_cons_zero, List.set_cons_succ, i64_w, i32_w]
    rfl
  refine take_ (i := 5) (N := some 42) (v := ?_) (a' := ?_) #[true, true, true, true, true, true, false, false, true, false] rfl rfl (by kernel_rfl) (fun _ _ _ h => h) (Or.inl ⟨by rfl, ?_⟩) hHeld ?_ ?_
  rotate_left
  · rintro w' ⟨s0, s1, s2⟩
    go_simp
    with_reducible rfl
  rotate_left
  · simp only [Act.put, List.setIfInBounds_toArray, List.set_cons_zero, List.set_cons_succ, i64_w, i32_w]
    rfl
  refine pure_ (i := 6) (N := some 43) (v := ?_) (a' := ?_) #[true, true, true, true, true, true, true, false, true, false] rfl rfl (by kernel_rfl) (fun _ _ _ h => h) (Or.inl ⟨by rfl, ?_⟩) ?_ ?_
  rotate_left
  · intro w'
    go_simp
    with_reducible rfl
  rotate_left
  · simp only [Act.put, List.setIfInBounds_toArray, List.set_cons_zero, List.set_cons_succ, i64_w, i32_w]
    rfl
  refine pure_ (i := 7) (N := some 44) (v := ?_) (a' := ?_) #[true, true, true, true, true, true, true, true, true, false] rfl rfl (by kernel_rfl) (fun _ _ _ h => h) (Or.inl ⟨by rfl, ?_⟩) ?_ ?_
  rotate_left
  · intro w'
    go_simp
    with_reducible rfl
  rotate_left
  · simp only [Act.put, List.setIfInBounds_toArray, List.set_cons_zero, List.set_cons_succ, i64_w, i32_w]
    rfl
  refine pure_ (i := 9) (N := some 5) (v := ?_) (a' := ?_) #[true, true, true, true, true, true, true, true, true, true] rfl rfl (by kernel_rfl) (fun _ _ _ h => h) (Or.inl ⟨by rfl, ?_⟩) ?_ ?_
  rotate_left
  · intro w'
    go_simp
    with_reducible rfl
  rotate_left
  · simp only [Act.put, List.setIfInBounds_toArray, List.set_cons_zero, List.set_cons_succ, i64_w, i32_w]
    rfl
  refine done_ (by kernel_rfl) ?_
  clear hHeld
  have k20 := HS.out.c20
  have k21 := HS.out.c21
  have k22 := HS.out.c22
  have k23 := HS.out.c23
  have k24 := HS.out.c24
  have k25 := HS.out.c25
  have k40 := HS.out.c40
  have k41 := HS.out.c41
  have f40 := HS.out.f40
  have f41 := HS.out.f41
  go_wp2_with (first
      | (go_at_call 86; (with_reducible refine (known_wide_sign.calls p0 p1 p2 (IntKind.u64.wrap (wrap64 (p2 - 1))) r0 r1 _ A2.out).mono ?_); rintro e w1_ ⟨rfl, hb⟩; have n0 := Aside0.mk (HS.out.below hb); clear HS hb k20 k21 k22 k23 k24 k25 k40 k41 f40 f41; have HS := n0; clear n0; have k20 := HS.out.c20; have k21 := HS.out.c21; have k22 := HS.out.c22; have k23 := HS.out.c23; have k24 := HS.out.c24; have k25 := HS.out.c25; have k40 := HS.out.c40; have k41 := HS.out.c41; have f40 := HS.out.f40; have f41 := HS.out.f41))
  refine bodyPost_ret (results_cell_row rfl _ _ gb4 24 #[.int .u64 r0, .int .u64 r1] (0, 0) _ rfl (by refine blk_put (cs := #[.int .u64 r0, .int .u64 0]) ?_ 1 _ rfl; refine blk_put (cs := #[.int .u64 0, .int .u64 0]) ?_ 0 _ rfl; exact HS.out.h4) Tryd.underlying24 rfl (by kernel_rfl)) rfl ?_
  exact ⟨rfl, below_set (below_set HS.out.hb HS.out.hg) HS.out.hg⟩
set_option maxHeartbeats 8000000 in
set_option maxRecDepth 100000 in
theorem known_pair_moved.sign (p0 p1 p2 p3 p4 p5 op s r0 r1 : Int) (w : World) (a1 : known_Num.f p2 p3 p4 = some (s, true)) (cs : ¬ IntKind.u64.wrap p2 ≤ s) (a2 : known_wide_sign.f p0 p1 p2 s = some (r0, r1)) :
    Calls Tryd.prog 57 #[.agg #[.int .u64 p0, .int .u64 p1, .int .i64 p2, .int .u64 p3, .int .u64 p4, .int .i64 p5], .int .i64 18] w fun e w' => e = .returned (.agg #[.int .u64 r0, .int .u64 r1]) ∧ Below w.heap.size w w' := by
  have hu := Tryd.underlying75
  have hu2 := Tryd.underlying73
  have hu3 := Tryd.underlying24
  have HB := Aside0.mk (Below.refl w.heap.size w)
  have A1 := Aside0.mk a1
  clear a1
  have hmf : ∀ (fn : Fn) (first cap : Array Value) (w : World), (Instr.makeFunc fn first cap).run Tryd.prog w = .ok (.func fn first cap) w := fun _ _ _ _ => rfl
  have cb : decide (IntKind.u64.wrap p2 ≤ s) = false := decide_eq_false cs
  clear cs
  have A2 := Aside0.mk a2
  clear a2
  go_enter Tryd.func57, Tryd.ntmps57
  go_wp2_with (first
      | ((with_reducible refine gate_dst (N := 2) rfl ?_); (try (refine gate_guard (by rfl) ?_; dsimp only)); refine box_event ?hg (N := 2) ?hd (cs := #[.int .u64 p0, .int .u64 p1, .int .i64 p2, .int .u64 p3, .int .u64 p4, .int .i64 p5]) (t := 75) ?hr ?_; (case hd => rfl); (case hg => rfl); (case hr => first | (go_simp; done) | (go_simp; rfl)); intro gb2 hg wb2 hbox hb; have n0 := Aside0.mk (below_step HB.out hb); have BK2 := Aside0.mk hbox; clear HB hb hg hbox; have HB := n0; clear n0)
      | ((with_reducible refine gate_dst (N := 4) rfl ?_); (try (refine gate_guard (by rfl) ?_; dsimp only)); refine box_event ?hg (N := 4) ?hd (cs := #[.int .u64 0, .int .u64 0]) (t := 24) ?hr ?_; (case hd => rfl); (case hg => rfl); (case hr => first | (go_simp; done) | (go_simp; rfl)); intro gb4 hg wb4 hbox hb; have HS := Aside0.mk (MovedSt.mk (p0 := p0) (p1 := p1) (p2 := p2) (p3 := p3) (p4 := p4) (p5 := p5) (blk_below BK2.out hb) hbox (below_step HB.out hb) (by rw [hg]; exact below_size HB.out)); clear HB BK2 hb hg hbox; have k20 := HS.out.c20; have k21 := HS.out.c21; have k22 := HS.out.c22; have k23 := HS.out.c23; have k24 := HS.out.c24; have k25 := HS.out.c25; have k40 := HS.out.c40; have k41 := HS.out.c41; have f40 := HS.out.f40; have f41 := HS.out.f41)
      | (go_at_call 13; (with_reducible refine (known_Num.calls p2 p3 p4 s true _ A1.out).mono ?_); rintro e w1_ ⟨rfl, hb⟩; have n0 := Aside0.mk (HS.out.below hb); clear HS hb k20 k21 k22 k23 k24 k25 k40 k41 f40 f41; have HS := n0; clear n0; have k20 := HS.out.c20; have k21 := HS.out.c21; have k22 := HS.out.c22; have k23 := HS.out.c23; have k24 := HS.out.c24; have k25 := HS.out.c25; have k40 := HS.out.c40; have k41 := HS.out.c41; have f40 := HS.out.f40; have f41 := HS.out.f41)
      | (go_at_call 86; (with_reducible refine (known_wide_sign.calls p0 p1 p2 s r0 r1 _ A2.out).mono ?_); rintro e w1_ ⟨rfl, hb⟩; have n0 := Aside0.mk (HS.out.below hb); clear HS hb k20 k21 k22 k23 k24 k25 k40 k41 f40 f41; have HS := n0; clear n0; have k20 := HS.out.c20; have k21 := HS.out.c21; have k22 := HS.out.c22; have k23 := HS.out.c23; have k24 := HS.out.c24; have k25 := HS.out.c25; have k40 := HS.out.c40; have k41 := HS.out.c41; have f40 := HS.out.f40; have f41 := HS.out.f41))
  refine bodyPost_ret (results_cell_row rfl _ _ gb4 24 #[.int .u64 r0, .int .u64 r1] (0, 0) _ rfl (by refine blk_put (cs := #[.int .u64 r0, .int .u64 0]) ?_ 1 _ rfl; refine blk_put (cs := #[.int .u64 0, .int .u64 0]) ?_ 0 _ rfl; exact HS.out.h4) Tryd.underlying24 rfl (by kernel_rfl)) rfl ?_
  exact ⟨rfl, below_set (below_set HS.out.hb HS.out.hg) HS.out.hg⟩
set_option maxHeartbeats 8000000 in
set_option maxRecDepth 100000 in
theorem known_pair_moved.far (p0 p1 p2 p3 p4 p5 op s r0 r1 : Int) (w : World) (a1 : known_Num.f p2 p3 p4 = some (s, true)) (cs : IntKind.u64.wrap p2 ≤ s) (h18 : op ≠ 18) (a2 : known_Of.f p2 0 = some (r0, r1)) :
    Calls Tryd.prog 57 #[.agg #[.int .u64 p0, .int .u64 p1, .int .i64 p2, .int .u64 p3, .int .u64 p4, .int .i64 p5], .int .i64 op] w fun e w' => e = .returned (.agg #[.int .u64 r0, .int .u64 r1]) ∧ Below w.heap.size w w' := by
  have hu := Tryd.underlying75
  have hu2 := Tryd.underlying73
  have hu3 := Tryd.underlying24
  have HB := Aside0.mk (Below.refl w.heap.size w)
  have A1 := Aside0.mk a1
  clear a1
  have hmf : ∀ (fn : Fn) (first cap : Array Value) (w : World), (Instr.makeFunc fn first cap).run Tryd.prog w = .ok (.func fn first cap) w := fun _ _ _ _ => rfl
  have cb : decide (IntKind.u64.wrap p2 ≤ s) = true := decide_eq_true cs
  clear cs
  have b18 : (op == 18) = false := beq_eq_false_iff_ne.mpr h18
  clear h18
  have A2 := Aside0.mk a2
  clear a2
  go_enter Tryd.func57, Tryd.ntmps57
  go_wp2_with (first
      | ((with_reducible refine gate_dst (N := 2) rfl ?_); (try (refine gate_guard (by rfl) ?_; dsimp only)); refine box_event ?hg (N := 2) ?hd (cs := #[.int .u64 p0, .int .u64 p1, .int .i64 p2, .int .u64 p3, .int .u64 p4, .int .i64 p5]) (t := 75) ?hr ?_; (case hd => rfl); (case hg => rfl); (case hr => first | (go_simp; done) | (go_simp; rfl)); intro gb2 hg wb2 hbox hb; have n0 := Aside0.mk (below_step HB.out hb); have BK2 := Aside0.mk hbox; clear HB hb hg hbox; have HB := n0; clear n0)
      | ((with_reducible refine gate_dst (N := 4) rfl ?_); (try (refine gate_guard (by rfl) ?_; dsimp only)); refine box_event ?hg (N := 4) ?hd (cs := #[.int .u64 0, .int .u64 0]) (t := 24) ?hr ?_; (case hd => rfl); (case hg => rfl); (case hr => first | (go_simp; done) | (go_simp; rfl)); intro gb4 hg wb4 hbox hb; have HS := Aside0.mk (MovedSt.mk (p0 := p0) (p1 := p1) (p2 := p2) (p3 := p3) (p4 := p4) (p5 := p5) (blk_below BK2.out hb) hbox (below_step HB.out hb) (by rw [hg]; exact below_size HB.out)); clear HB BK2 hb hg hbox; have k20 := HS.out.c20; have k21 := HS.out.c21; have k22 := HS.out.c22; have k23 := HS.out.c23; have k24 := HS.out.c24; have k25 := HS.out.c25; have k40 := HS.out.c40; have k41 := HS.out.c41; have f40 := HS.out.f40; have f41 := HS.out.f41)
      | (go_at_call 13; (with_reducible refine (known_Num.calls p2 p3 p4 s true _ A1.out).mono ?_); rintro e w1_ ⟨rfl, hb⟩; have n0 := Aside0.mk (HS.out.below hb); clear HS hb k20 k21 k22 k23 k24 k25 k40 k41 f40 f41; have HS := n0; clear n0; have k20 := HS.out.c20; have k21 := HS.out.c21; have k22 := HS.out.c22; have k23 := HS.out.c23; have k24 := HS.out.c24; have k25 := HS.out.c25; have k40 := HS.out.c40; have k41 := HS.out.c41; have f40 := HS.out.f40; have f41 := HS.out.f41)
      | (go_at_call 14; (with_reducible refine (known_Of.calls p2 0 r0 r1 _ A2.out).mono ?_); rintro e w1_ ⟨rfl, hb⟩; have n0 := Aside0.mk (HS.out.below hb); clear HS hb k20 k21 k22 k23 k24 k25 k40 k41 f40 f41; have HS := n0; clear n0; have k20 := HS.out.c20; have k21 := HS.out.c21; have k22 := HS.out.c22; have k23 := HS.out.c23; have k24 := HS.out.c24; have k25 := HS.out.c25; have k40 := HS.out.c40; have k41 := HS.out.c41; have f40 := HS.out.f40; have f41 := HS.out.f41))
  refine bodyPost_ret (results_cell_row rfl _ _ gb4 24 #[.int .u64 r0, .int .u64 r1] (0, 0) _ rfl (by refine blk_put (cs := #[.int .u64 r0, .int .u64 0]) ?_ 1 _ rfl; refine blk_put (cs := #[.int .u64 0, .int .u64 0]) ?_ 0 _ rfl; exact HS.out.h4) Tryd.underlying24 rfl (by kernel_rfl)) rfl ?_
  exact ⟨rfl, below_set (below_set HS.out.hb HS.out.hg) HS.out.hg⟩
set_option maxHeartbeats 8000000 in
set_option maxRecDepth 100000 in
theorem known_pair_moved.up (p0 p1 p2 p3 p4 p5 op s r0 r1 : Int) (w : World) (a1 : known_Num.f p2 p3 p4 = some (s, true)) (cs : ¬ IntKind.u64.wrap p2 ≤ s) (a2 : known_wide_up.f p0 p1 p2 s = some (r0, r1)) :
    Calls Tryd.prog 57 #[.agg #[.int .u64 p0, .int .u64 p1, .int .i64 p2, .int .u64 p3, .int .u64 p4, .int .i64 p5], .int .i64 16] w fun e w' => e = .returned (.agg #[.int .u64 r0, .int .u64 r1]) ∧ Below w.heap.size w w' := by
  have hu := Tryd.underlying75
  have hu2 := Tryd.underlying73
  have hu3 := Tryd.underlying24
  have HB := Aside0.mk (Below.refl w.heap.size w)
  have A1 := Aside0.mk a1
  clear a1
  have hmf : ∀ (fn : Fn) (first cap : Array Value) (w : World), (Instr.makeFunc fn first cap).run Tryd.prog w = .ok (.func fn first cap) w := fun _ _ _ _ => rfl
  have cb : decide (IntKind.u64.wrap p2 ≤ s) = false := decide_eq_false cs
  clear cs
  have A2 := Aside0.mk a2
  clear a2
  go_enter Tryd.func57, Tryd.ntmps57
  go_wp2_with (first
      | ((with_reducible refine gate_dst (N := 2) rfl ?_); (try (refine gate_guard (by rfl) ?_; dsimp only)); refine box_event ?hg (N := 2) ?hd (cs := #[.int .u64 p0, .int .u64 p1, .int .i64 p2, .int .u64 p3, .int .u64 p4, .int .i64 p5]) (t := 75) ?hr ?_; (case hd => rfl); (case hg => rfl); (case hr => first | (go_simp; done) | (go_simp; rfl)); intro gb2 hg wb2 hbox hb; have n0 := Aside0.mk (below_step HB.out hb); have BK2 := Aside0.mk hbox; clear HB hb hg hbox; have HB := n0; clear n0)
      | ((with_reducible refine gate_dst (N := 4) rfl ?_); (try (refine gate_guard (by rfl) ?_; dsimp only)); refine box_event ?hg (N := 4) ?hd (cs := #[.int .u64 0, .int .u64 0]) (t := 24) ?hr ?_; (case hd => rfl); (case hg => rfl); (case hr => first | (go_simp; done) | (go_simp; rfl)); intro gb4 hg wb4 hbox hb; have HS := Aside0.mk (MovedSt.mk (p0 := p0) (p1 := p1) (p2 := p2) (p3 := p3) (p4 := p4) (p5 := p5) (blk_below BK2.out hb) hbox (below_step HB.out hb) (by rw [hg]; exact below_size HB.out)); clear HB BK2 hb hg hbox; have k20 := HS.out.c20; have k21 := HS.out.c21; have k22 := HS.out.c22; have k23 := HS.out.c23; have k24 := HS.out.c24; have k25 := HS.out.c25; have k40 := HS.out.c40; have k41 := HS.out.c41; have f40 := HS.out.f40; have f41 := HS.out.f41)
      | (go_at_call 13; (with_reducible refine (known_Num.calls p2 p3 p4 s true _ A1.out).mono ?_); rintro e w1_ ⟨rfl, hb⟩; have n0 := Aside0.mk (HS.out.below hb); clear HS hb k20 k21 k22 k23 k24 k25 k40 k41 f40 f41; have HS := n0; clear n0; have k20 := HS.out.c20; have k21 := HS.out.c21; have k22 := HS.out.c22; have k23 := HS.out.c23; have k24 := HS.out.c24; have k25 := HS.out.c25; have k40 := HS.out.c40; have k41 := HS.out.c41; have f40 := HS.out.f40; have f41 := HS.out.f41)
      | (go_at_call 87; (with_reducible refine (known_wide_up.calls p0 p1 p2 s r0 r1 _ A2.out).mono ?_); rintro e w1_ ⟨rfl, hb⟩; have n0 := Aside0.mk (HS.out.below hb); clear HS hb k20 k21 k22 k23 k24 k25 k40 k41 f40 f41; have HS := n0; clear n0; have k20 := HS.out.c20; have k21 := HS.out.c21; have k22 := HS.out.c22; have k23 := HS.out.c23; have k24 := HS.out.c24; have k25 := HS.out.c25; have k40 := HS.out.c40; have k41 := HS.out.c41; have f40 := HS.out.f40; have f41 := HS.out.f41))
  refine bodyPost_ret (results_cell_row rfl _ _ gb4 24 #[.int .u64 r0, .int .u64 r1] (0, 0) _ rfl (by refine blk_put (cs := #[.int .u64 r0, .int .u64 0]) ?_ 1 _ rfl; refine blk_put (cs := #[.int .u64 0, .int .u64 0]) ?_ 0 _ rfl; exact HS.out.h4) Tryd.underlying24 rfl (by kernel_rfl)) rfl ?_
  exact ⟨rfl, below_set (below_set HS.out.hb HS.out.hg) HS.out.hg⟩
set_option maxHeartbeats 8000000 in
set_option maxRecDepth 100000 in
theorem known_pair_moved.down (p0 p1 p2 p3 p4 p5 op s r0 r1 : Int) (w : World) (a1 : known_Num.f p2 p3 p4 = some (s, true)) (cs : ¬ IntKind.u64.wrap p2 ≤ s) (h18 : op ≠ 18) (h16 : op ≠ 16) (a2 : known_wide_down.f p0 p1 p2 s = some (r0, r1)) :
    Calls Tryd.prog 57 #[.agg #[.int .u64 p0, .int .u64 p1, .int .i64 p2, .int .u64 p3, .int .u64 p4, .int .i64 p5], .int .i64 op] w fun e w' => e = .returned (.agg #[.int .u64 r0, .int .u64 r1]) ∧ Below w.heap.size w w' := by
  have hu := Tryd.underlying75
  have hu2 := Tryd.underlying73
  have hu3 := Tryd.underlying24
  have HB := Aside0.mk (Below.refl w.heap.size w)
  have A1 := Aside0.mk a1
  clear a1
  have hmf : ∀ (fn : Fn) (first cap : Array Value) (w : World), (Instr.makeFunc fn first cap).run Tryd.prog w = .ok (.func fn first cap) w := fun _ _ _ _ => rfl
  have cb : decide (IntKind.u64.wrap p2 ≤ s) = false := decide_eq_false cs
  clear cs
  have b18 : (op == 18) = false := beq_eq_false_iff_ne.mpr h18
  clear h18
  have b16 : (op == 16) = false := beq_eq_false_iff_ne.mpr h16
  clear h16
  have A2 := Aside0.mk a2
  clear a2
  go_enter Tryd.func57, Tryd.ntmps57
  go_wp2_with (first
      | ((with_reducible refine gate_dst (N := 2) rfl ?_); (try (refine gate_guard (by rfl) ?_; dsimp only)); refine box_event ?hg (N := 2) ?hd (cs := #[.int .u64 p0, .int .u64 p1, .int .i64 p2, .int .u64 p3, .int .u64 p4, .int .i64 p5]) (t := 75) ?hr ?_; (case hd => rfl); (case hg => rfl); (case hr => first | (go_simp; done) | (go_simp; rfl)); intro gb2 hg wb2 hbox hb; have n0 := Aside0.mk (below_step HB.out hb); have BK2 := Aside0.mk hbox; clear HB hb hg hbox; have HB := n0; clear n0)
      | ((with_reducible refine gate_dst (N := 4) rfl ?_); (try (refine gate_guard (by rfl) ?_; dsimp only)); refine box_event ?hg (N := 4) ?hd (cs := #[.int .u64 0, .int .u64 0]) (t := 24) ?hr ?_; (case hd => rfl); (case hg => rfl); (case hr => first | (go_simp; done) | (go_simp; rfl)); intro gb4 hg wb4 hbox hb; have HS := Aside0.mk (MovedSt.mk (p0 := p0) (p1 := p1) (p2 := p2) (p3 := p3) (p4 := p4) (p5 := p5) (blk_below BK2.out hb) hbox (below_step HB.out hb) (by rw [hg]; exact below_size HB.out)); clear HB BK2 hb hg hbox; have k20 := HS.out.c20; have k21 := HS.out.c21; have k22 := HS.out.c22; have k23 := HS.out.c23; have k24 := HS.out.c24; have k25 := HS.out.c25; have k40 := HS.out.c40; have k41 := HS.out.c41; have f40 := HS.out.f40; have f41 := HS.out.f41)
      | (go_at_call 13; (with_reducible refine (known_Num.calls p2 p3 p4 s true _ A1.out).mono ?_); rintro e w1_ ⟨rfl, hb⟩; have n0 := Aside0.mk (HS.out.below hb); clear HS hb k20 k21 k22 k23 k24 k25 k40 k41 f40 f41; have HS := n0; clear n0; have k20 := HS.out.c20; have k21 := HS.out.c21; have k22 := HS.out.c22; have k23 := HS.out.c23; have k24 := HS.out.c24; have k25 := HS.out.c25; have k40 := HS.out.c40; have k41 := HS.out.c41; have f40 := HS.out.f40; have f41 := HS.out.f41)
      | (go_at_call 85; (with_reducible refine (known_wide_down.calls p0 p1 p2 s r0 r1 _ A2.out).mono ?_); rintro e w1_ ⟨rfl, hb⟩; have n0 := Aside0.mk (HS.out.below hb); clear HS hb k20 k21 k22 k23 k24 k25 k40 k41 f40 f41; have HS := n0; clear n0; have k20 := HS.out.c20; have k21 := HS.out.c21; have k22 := HS.out.c22; have k23 := HS.out.c23; have k24 := HS.out.c24; have k25 := HS.out.c25; have k40 := HS.out.c40; have k41 := HS.out.c41; have f40 := HS.out.f40; have f41 := HS.out.f41))
  refine bodyPost_ret (results_cell_row rfl _ _ gb4 24 #[.int .u64 r0, .int .u64 r1] (0, 0) _ rfl (by refine blk_put (cs := #[.int .u64 r0, .int .u64 0]) ?_ 1 _ rfl; refine blk_put (cs := #[.int .u64 0, .int .u64 0]) ?_ 0 _ rfl; exact HS.out.h4) Tryd.underlying24 rfl (by kernel_rfl)) rfl ?_
  exact ⟨rfl, below_set (below_set HS.out.hb HS.out.hg) HS.out.hg⟩
/-! ### known_pair_moved: function 57 -/
theorem known_pair_moved.calls (p0 p1 p2 p3 p4 p5 op r0 r1 : Int) (w : World) (h : known_pair_moved.f p0 p1 p2 p3 p4 p5 op = some (r0, r1)) :
    Calls Tryd.prog 57 #[.agg #[.int .u64 p0, .int .u64 p1, .int .i64 p2, .int .u64 p3, .int .u64 p4, .int .i64 p5], .int .i64 op] w fun e w' => e = .returned (.agg #[.int .u64 r0, .int .u64 r1]) ∧ Below w.heap.size w w' := by
  unfold known_pair_moved.f at h
  obtain ⟨⟨s, ok⟩, a1, h⟩ := Option.bind_eq_some_iff.mp h
  cases ok
  · simp only [if_true] at h
    obtain ⟨rfl, rfl⟩ := Prod.mk.inj (Option.some.inj h)
    exact known_pair_moved.unknown p0 p1 p2 p3 p4 p5 op s 0 0 w a1
  · simp only [Bool.true_eq_false, if_false] at h
    unfold known_moved_on at h
    by_cases h18 : op = 18
    · subst h18
      rw [if_pos rfl] at h
      by_cases cs : IntKind.u64.wrap p2 ≤ s
      · rw [if_pos cs] at h
        exact known_pair_moved.signFar p0 p1 p2 p3 p4 p5 18 s r0 r1 w a1 cs h
      · rw [if_neg cs] at h
        exact known_pair_moved.sign p0 p1 p2 p3 p4 p5 18 s r0 r1 w a1 cs h
    · rw [if_neg h18] at h
      by_cases cs : IntKind.u64.wrap p2 ≤ s
      · rw [if_pos cs] at h
        exact known_pair_moved.far p0 p1 p2 p3 p4 p5 op s r0 r1 w a1 cs h18 h
      · rw [if_neg cs] at h
        by_cases h16 : op = 16
        · subst h16
          rw [if_pos rfl] at h
          exact known_pair_moved.up p0 p1 p2 p3 p4 p5 16 s r0 r1 w a1 cs h
        · rw [if_neg h16] at h
          exact known_pair_moved.down p0 p1 p2 p3 p4 p5 op s r0 r1 w a1 cs h18 h16 h
end Go.Proofs.YtidabafobpbniaaDoor.P
