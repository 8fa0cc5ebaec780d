/- math/bits.TrailingZeros64 over its table, and how many of the lowest bits are known, by hand. -/
import Derived.Test.YtidabafobpbniaaDoorPx7
import Derived.Lib.TrailingZeros
import Derived.Laws.Bits64b
import Derived.Shelf.Spec.TrailingZeros
namespace Go.Proofs.YtidabafobpbniaaDoor.P
open Go.RowKit Go.Proofs.YtidabafobpbniaaDoorW.PrintWords Go.Proofs.YtidabafobpbniaaDoorW.PrintLast Go.Proofs.YtidabafobpbniaaDoorW.PrintMore
set_option linter.unusedVariables false
set_option linter.unusedSimpArgs false

/-- The library's table lies in its variable: what a block reads that is there. -/
def Tab (w : World) : Prop := ∃ o, w.heap[0]? = some o ∧ ∀ W : World, W.heap[0]? = some o → ∀ j, j < 64 → W.cell? ⟨0, j, none⟩ = some (.int .u8 ((Lib.deBruijn64tab.getD j 0 : Nat) : Int))
theorem tab_below {w w' : World} (T : Tab w) (hb : Below w.heap.size w w') : Tab w' := by
  obtain ⟨o, ho, h⟩ := T
  exact ⟨o, blk_below ho hb, h⟩
theorem tabq {w0 w1 w : World} (T : Aside0 (Tab w0)) (B : Aside0 (Below w0.heap.size w0 w1)) (h : Below w0.heap.size w0 w1 → Below w0.heap.size w0 w := by intro h_; repeat (first | (with_reducible first | exact h_ | apply below_alloc | apply pw_below_drewN | apply below_drew1) | exact h_)) : Tab w := tab_below T.out (h B.out)
set_option maxHeartbeats 1000000 in
theorem tz64_core (x k idx : Nat) (w : World) (hx0 : ((x : Int) == 0) = false)
    (key : IntKind.u64.wrap (bits BinOp.and IntKind.u64 (x : Int) (IntKind.u64.wrap (-(x : Int))) * 285870213051353865) / 288230376151711744 = (idx : Int))
    (hi : idx < 64) (hcell : w.cell? ⟨0, idx, none⟩ = some (.int .u8 k)) (hk : k < 64) :
    Calls Tryd.prog 102 #[.int .u64 x] w fun e w' => e = .returned (.int .i64 k) ∧ w' = w := by
  go_enter Tryd.func102, Tryd.ntmps102
  go_wp2_with (simp only [key])
  go_ret
  exact ⟨rfl, rfl⟩
theorem tz64_zero (w : World) : Calls Tryd.prog 102 #[.int .u64 0] w fun e w' => e = .returned (.int .i64 64) ∧ w' = w := by
  go_enter Tryd.func102, Tryd.ntmps102
  go_wp2
  go_ret
  exact ⟨rfl, rfl⟩
theorem tz64_calls (x : Nat) (hx : x < 18446744073709551616) (w : World) (hT : Tab w) :
    Calls Tryd.prog 102 #[.int .u64 x] w fun e w' => e = .returned (.int .i64 ((Lib.ctz 64 x : Nat) : Int)) ∧ w' = w := by
  by_cases hx0 : x = 0
  · subst hx0
    exact tz64_zero w
  · obtain ⟨hlow, hk⟩ := Lib.lowest_bit 64 x hx0 hx
    obtain ⟨hi, htab⟩ := Lib.deBruijn64_at _ hk
    obtain ⟨o, ho, h⟩ := hT
    have hcell := h w ho _ hi
    rw [htab] at hcell
    exact tz64_core x _ _ w (by simp; omega) (tz64_key x _ hx hx0 hlow) hi hcell hk
/-! ### known_wide_low: function 84 -/
def known_wide_low.f (a0_0 a0_1 a0_2 : Int) : Option Int := (known_wide_all.f a0_0 a0_1 a0_2).bind fun t => if 0 ≤ Go.bits .xor .u64 18446744073709551615 t ∧ Go.bits .xor .u64 18446744073709551615 t < 18446744073709551616 then some ((Lib.ctz 64 (Go.bits .xor .u64 18446744073709551615 t).toNat : Nat) : Int) else none
set_option maxHeartbeats 8000000 in
set_option maxRecDepth 100000 in
theorem known_wide_low.calls (a0_0 a0_1 a0_2 r : Int) (w : World) (hT0 : Tab w) (h : known_wide_low.f a0_0 a0_1 a0_2 = some r) :
    Calls Tryd.prog 84 #[.agg #[.int .u64 a0_0, .int .u64 a0_1, .int .i64 a0_2]] w fun e w' => e = .returned (.int .i64 r) ∧ Below w.heap.size w w' := by
  have hu73 := Tryd.underlying73
  have HB := Aside0.mk (Below.refl w.heap.size w)
  have HT := Aside0.mk hT0
  clear hT0
  unfold known_wide_low.f at h
  obtain ⟨t, a1, h⟩ := Option.bind_eq_some_iff.mp h
  by_cases c : 0 ≤ Go.bits .xor .u64 18446744073709551615 t ∧ Go.bits .xor .u64 18446744073709551615 t < 18446744073709551616
  case neg => rw [if_neg c] at h; cases h
  rw [if_pos c] at h
  obtain rfl := Option.some.inj h
  obtain ⟨x, hx⟩ : ∃ x : Nat, Go.bits .xor .u64 18446744073709551615 t = (x : Int) := ⟨_, (Int.toNat_of_nonneg c.1).symm⟩
  rw [hx] at c ⊢
  rw [show ((x : Int)).toNat = x from rfl]
  have hx' := Aside0.mk (show x < 18446744073709551616 by omega)
  have A1 := Aside0.mk a1
  have hx_ : Go.bits .xor .u64 IntKind.u64.max t = (x : Int) := hx
  clear c h a1 hx
  go_enter Tryd.func84, Tryd.ntmps84
  go_wp2_with (first
    | ((with_reducible refine gate_dst (N := 1) rfl ?_); refine box_event ?hg (N := 1) ?hd (cs := #[.int .u64 a0_0, .int .u64 a0_1, .int .i64 a0_2]) (t := 73) ?hr ?_; (case hd => rfl); (case hg => rfl); (case hr => first | (go_simp; done) | (go_simp; rfl)); intro gb hg w2 hbox hb; have n0 := Aside0.mk (below_step HB.out hb); have BK := Aside0.mk hbox; clear HB hb hg hbox; have HB := n0; clear n0; have k0 := (blk_cell BK.out 0).trans rfl; have k1 := (blk_cell BK.out 1).trans rfl; have k2 := (blk_cell BK.out 2).trans rfl)
    | (go_at_call 55; (with_reducible refine (known_wide_all.calls a0_0 a0_1 a0_2 t _ A1.out).mono ?_); rintro e w3 ⟨rfl, hb⟩; have n0 := Aside0.mk (below_step HB.out hb); clear HB hb; have HB := n0; clear n0)
    | (go_at_call 102; rw [show Go.bits .xor .u64 (if IntKind.u64.signed = true then -1 else IntKind.u64.max) t = (x : Int) from hx_]; (with_reducible refine (tz64_calls x hx'.out _ (tabq HT HB)).mono ?_); rintro e w4 ⟨rfl, rfl⟩))
  go_ret
  exact ⟨rfl, HB.out⟩
end Go.Proofs.YtidabafobpbniaaDoor.P
