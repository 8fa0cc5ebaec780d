/- What the functions of a chapter compute, as contracts; written by a program of this session. -/
import Derived.Test.YtdfifogicefkjaaGreatDoorK2
import Derived.Shelf.Spec.TrailingZeros
open Go Go.Proofs Go.RowKit
namespace Go.Proofs.YtdfifogicefkjaaGreatDoor.Sx.M5
set_option linter.unusedVariables false
set_option linter.unusedSimpArgs false
/-- The place of a word in the table. -/
def tzi (x : Int) : Int := (IntKind.u64.wrap ((Go.bits .and .u64 x (IntKind.u64.wrap (0 - x))) * 285870213051353865)).fdiv (2 ^ 58)
theorem tz_idx (x : Int) : 0 ≤ tzi x ∧ tzi x < 64 := by
  have h := wrap_u64_rng ((Go.bits .and .u64 x (IntKind.u64.wrap (0 - x))) * 285870213051353865)
  unfold tzi
  rw [Int.fdiv_eq_ediv_of_nonneg _ (by decide)]
  generalize IntKind.u64.wrap _ = y at *
  have e : y / 2 ^ 58 = y / 288230376151711744 := rfl
  omega
theorem tzi_eq (x : Int) : AV.v (.int .u64 ((IntKind.u64.wrap ((Go.bits .and .u64 x (IntKind.u64.wrap (0 - x))) * 285870213051353865)).fdiv (2 ^ 58))) = AV.v (.int .u64 (tzi x)) := rfl
theorem tab_el {i : Int} (h : 0 ≤ i ∧ i < 64) : ∀ D, GG D → ∃ cells te fr, D 0 = some (.cells cells te fr) ∧ ∀ (j : Nat) (x : Value), [Value.int .u8 ((Lib.deBruijn64tab.getD i.toNat 0 : Nat) : Int)][j]? = some x → cells[i.toNat + j]? = some x := by
  rintro D ⟨cs, t, f, h1, h2⟩
  refine ⟨cs, t, f, h1, fun j x hx => ?_⟩
  cases j with
  | zero =>
    simp only [List.getElem?_cons_zero, Option.some.injEq] at hx
    rw [← hx, Nat.add_zero]
    exact h2 _ (by omega)
  | succ j => simp at hx

def tz_s (x : Int) : Int := (bif x == (0 : Int) then (64 : Int) else (IntKind.i64.wrap (((Lib.deBruijn64tab.getD ((tzi x).toNat) 0 : Nat) : Int))))
set_option maxRecDepth 100000 in
theorem tz_ok (x : Int)  : Ok Tryz.prog 132 [.v (.int .u64 x)] (look []) (.v (.int .i64 (tz_s x))) (postOf [] []) := by
  unfold tz_s
  obtain ⟨i, hi⟩ : ∃ i, tzi x = i := ⟨_, rfl⟩
  rw [hi]
  cases h1001 : (x == (0 : Int))
  · have p1001 := ne_of_beq_false h1001
    exact ok_run Tryz.func132 rfl rfl mixed 400 [(1001, .b false), (3005, .as_ (.v (.int .u64 i))), (3006, .el [Value.int .u8 ((Lib.deBruijn64tab.getD (i.toNat) 0 : Nat) : Int)])] (all4 h1001 (hi ▸ tzi_eq x) (hi ▸ tz_idx x) (tab_el (hi ▸ tz_idx x))) (by kernel_rfl)
  · have p1001 := eq_of_beq h1001
    exact ok_run Tryz.func132 rfl rfl mixed 400 [(1001, .b true)] (all1 h1001) (by kernel_rfl)
end Go.Proofs.YtdfifogicefkjaaGreatDoor.Sx.M5
/- What the functions of a chapter compute, as contracts; written by a program of this session. -/
open Go Go.Proofs Go.RowKit
namespace Go.Proofs.YtdfifogicefkjaaGreatDoor.Sx.M5
set_option linter.unusedVariables false
set_option linter.unusedSimpArgs false
theorem minE3 (k : IntKind) (x y z : Int) : AV.v (.int k (if z < (if y < x then y else x) then z else (if y < x then y else x))) = AV.v (.int k (min (min x y) z)) := by
  congr 2
  split <;> split <;> omega

theorem tab_all : Lib.deBruijn64tab.all (Nat.blt · 64) = true := by rfl
theorem tab_rng (j : Nat) : Lib.deBruijn64tab.getD j 0 < 64 := by
  rw [List.getD_eq_getElem?_getD]
  cases h : Lib.deBruijn64tab[j]? with
  | none => decide
  | some y =>
    have := List.all_eq_true.1 tab_all y (List.mem_of_getElem? h)
    exact Nat.blt_eq ▸ this
theorem wrap_b (n : Nat) (h : n < 64) : 0 ≤ IntKind.i64.wrap (n : Int) ∧ IntKind.i64.wrap (n : Int) ≤ 64 := by
  rw [IntKind.wrap_i64]; omega
theorem bif_b (b : Bool) (W : Int) (h : 0 ≤ W ∧ W ≤ 64) : 0 ≤ (bif b then 64 else W) ∧ (bif b then 64 else W) ≤ 64 := by
  cases b with
  | true => exact ⟨(by decide : (0:Int) ≤ 64), (by decide : (64:Int) ≤ 64)⟩
  | false => exact h
theorem tz_def (x : Int) : tz_s x = (bif x == (0 : Int) then (64 : Int) else (IntKind.i64.wrap (((Lib.deBruijn64tab.getD ((tzi x).toNat) 0 : Nat) : Int)))) := rfl
theorem tz_rng (x : Int) : 0 ≤ tz_s x ∧ tz_s x ≤ 64 := by
  rw [tz_def]
  exact bif_b _ _ (wrap_b _ (tab_rng _))

def krig_s (w z e : Int) : Int × Int := (bif (Go.bits .and .u64 (cut_s w z) (cut_s w e)) != (0 : Int) then ((0 : Int), (0 : Int)) else ((cut_s w z), (cut_s w e)))
set_option maxRecDepth 100000 in
theorem krig_ok (w z e : Int)  : Ok Tryz.prog 23 [.v (.int .i64 w), .agg [.v (.int .u64 z), .v (.int .u64 e)]] (look []) (.agg [.v (.int .u64 ((krig_s w z e).1)), .v (.int .u64 ((krig_s w z e).2))]) (postOf [] []) := by
  unfold krig_s
  cases h2005 : ((Go.bits .and .u64 (cut_s w z) (cut_s w e)) != (0 : Int))
  · have p2005 := bne_eq_false_iff_eq.1 h2005
    exact ok_run Tryz.func23 rfl rfl mixed 400 [(0, .nm 701), (1, .nm 702), (1003, .call [] [] (.v (.int .u64 (cut_s w z)))), (1007, .call [] [] (.v (.int .u64 (cut_s w e)))), (2005, .b false)] (all3 (cut_ok w z ) (cut_ok w e ) h2005) (by kernel_rfl)
  · have p2005 := bne_iff_ne.1 h2005
    exact ok_run Tryz.func23 rfl rfl mixed 400 [(0, .nm 701), (1, .nm 702), (1003, .call [] [] (.v (.int .u64 (cut_s w z)))), (1007, .call [] [] (.v (.int .u64 (cut_s w e)))), (2005, .b true)] (all3 (cut_ok w z ) (cut_ok w e ) h2005) (by kernel_rfl)

def kof_s (w x : Int) : Int × Int := (Go.bits .xor .u64 (cut_s w x) (mask_s w), (cut_s w x))
set_option maxRecDepth 100000 in
theorem kof_ok (w x : Int)  : Ok Tryz.prog 27 [.v (.int .i64 w), .v (.int .u64 x)] (look []) (.agg [.v (.int .u64 ((kof_s w x).1)), .v (.int .u64 ((kof_s w x).2))]) (postOf [] []) := by
  unfold kof_s
  exact ok_run Tryz.func27 rfl rfl mixed 400 [(0, .nm 701), (1002, .call [] [] (.v (.int .u64 (cut_s w x)))), (2002, .call [] [] (.v (.int .u64 (mask_s w))))] (all2 (cut_ok w x ) (mask_ok w )) (by kernel_rfl)

def knum_s (w z e : Int) : Int × Bool := (bif !(((krig_s w z e).1) == ((kof_s w ((krig_s w z e).2)).1) && (((krig_s w z e).2) == ((kof_s w ((krig_s w z e).2)).2))) then ((0 : Int), false) else ((krig_s w z e).2, true))
set_option maxRecDepth 100000 in
theorem knum_ok (w z e : Int)  : Ok Tryz.prog 76 [.v (.int .i64 w), .agg [.v (.int .u64 z), .v (.int .u64 e)]] (look []) (.tup [.v (.int .u64 ((knum_s w z e).1)), .v (.bool ((knum_s w z e).2))]) (postOf [] []) := by
  unfold knum_s
  cases h2005 : (!(((krig_s w z e).1) == ((kof_s w ((krig_s w z e).2)).1) && (((krig_s w z e).2) == ((kof_s w ((krig_s w z e).2)).2))))
  · have p2005 := notF h2005
    exact ok_run Tryz.func76 rfl rfl mixed 400 [(0, .nm 701), (1002, .call [] [] (.agg [.v (.int .u64 ((krig_s w z e).1)), .v (.int .u64 ((krig_s w z e).2))])), (2004, .call [] [] (.agg [.v (.int .u64 ((kof_s w ((krig_s w z e).2)).1)), .v (.int .u64 ((kof_s w ((krig_s w z e).2)).2))])), (2005, .b false)] (all3 (krig_ok w z e ) (kof_ok w ((krig_s w z e).2) ) h2005) (by kernel_rfl)
  · have p2005 := notT h2005
    exact ok_run Tryz.func76 rfl rfl mixed 400 [(0, .nm 701), (1002, .call [] [] (.agg [.v (.int .u64 ((krig_s w z e).1)), .v (.int .u64 ((krig_s w z e).2))])), (2004, .call [] [] (.agg [.v (.int .u64 ((kof_s w ((krig_s w z e).2)).1)), .v (.int .u64 ((kof_s w ((krig_s w z e).2)).2))])), (2005, .b true)] (all3 (krig_ok w z e ) (kof_ok w ((krig_s w z e).2) ) h2005) (by kernel_rfl)

def kmee_s (w a b c e : Int) : Int × Int × Bool := (bif (Go.bits .and .u64 (Go.bits .or .u64 ((krig_s w a b).1) ((krig_s w c e).1)) (Go.bits .or .u64 ((krig_s w a b).2) ((krig_s w c e).2))) != (0 : Int) then ((0 : Int), (0 : Int), false) else (Go.bits .or .u64 ((krig_s w a b).1) ((krig_s w c e).1), Go.bits .or .u64 ((krig_s w a b).2) ((krig_s w c e).2), true))
set_option maxRecDepth 100000 in
theorem kmee_ok (w a b c e : Int)  : Ok Tryz.prog 28 [.v (.int .i64 w), .agg [.v (.int .u64 a), .v (.int .u64 b)], .agg [.v (.int .u64 c), .v (.int .u64 e)]] (look []) (.tup [.agg [.v (.int .u64 ((kmee_s w a b c e).1)), .v (.int .u64 ((kmee_s w a b c e).2.1))], .v (.bool ((kmee_s w a b c e).2.2))]) (postOf [] []) := by
  unfold kmee_s
  cases h3005 : ((Go.bits .and .u64 (Go.bits .or .u64 ((krig_s w a b).1) ((krig_s w c e).1)) (Go.bits .or .u64 ((krig_s w a b).2) ((krig_s w c e).2))) != (0 : Int))
  · have p3005 := bne_eq_false_iff_eq.1 h3005
    exact ok_run Tryz.func28 rfl rfl mixed 400 [(0, .nm 701), (1, .nm 702), (2, .nm 703), (1002, .call [] [] (.agg [.v (.int .u64 ((krig_s w a b).1)), .v (.int .u64 ((krig_s w a b).2))])), (1005, .call [] [] (.agg [.v (.int .u64 ((krig_s w c e).1)), .v (.int .u64 ((krig_s w c e).2))])), (2011, .nm 704), (3005, .b false)] (all3 (krig_ok w a b ) (krig_ok w c e ) h3005) (by kernel_rfl)
  · have p3005 := bne_iff_ne.1 h3005
    exact ok_run Tryz.func28 rfl rfl mixed 400 [(0, .nm 701), (1, .nm 702), (2, .nm 703), (1002, .call [] [] (.agg [.v (.int .u64 ((krig_s w a b).1)), .v (.int .u64 ((krig_s w a b).2))])), (1005, .call [] [] (.agg [.v (.int .u64 ((krig_s w c e).1)), .v (.int .u64 ((krig_s w c e).2))])), (2011, .nm 704), (3005, .b true)] (all3 (krig_ok w a b ) (krig_ok w c e ) h3005) (by kernel_rfl)

def kjoi_s (w a b c e : Int) : Int × Int := (Go.bits .and .u64 ((krig_s w a b).1) ((krig_s w c e).1), Go.bits .and .u64 ((krig_s w a b).2) ((krig_s w c e).2))
set_option maxRecDepth 100000 in
theorem kjoi_ok (w a b c e : Int)  : Ok Tryz.prog 49 [.v (.int .i64 w), .agg [.v (.int .u64 a), .v (.int .u64 b)], .agg [.v (.int .u64 c), .v (.int .u64 e)]] (look []) (.agg [.v (.int .u64 ((kjoi_s w a b c e).1)), .v (.int .u64 ((kjoi_s w a b c e).2))]) (postOf [] []) := by
  unfold kjoi_s
  exact ok_run Tryz.func49 rfl rfl mixed 400 [(0, .nm 701), (1, .nm 702), (2, .nm 703), (1002, .call [] [] (.agg [.v (.int .u64 ((krig_s w a b).1)), .v (.int .u64 ((krig_s w a b).2))])), (1005, .call [] [] (.agg [.v (.int .u64 ((krig_s w c e).1)), .v (.int .u64 ((krig_s w c e).2))]))] (all2 (krig_ok w a b ) (krig_ok w c e )) (by kernel_rfl)

def kall_s (z e w : Int) : Int := (Go.bits .or .u64 z e)
set_option maxRecDepth 100000 in
theorem kall_ok (z e w : Int)  : Ok Tryz.prog 117 [.agg [.v (.int .u64 z), .v (.int .u64 e), .v (.int .i64 w)]] (look []) (.v (.int .u64 (kall_s z e w))) (postOf [] []) := by
  unfold kall_s
  exact ok_run Tryz.func117 rfl rfl mixed 400 [(0, .nm 701)] (all0) (by kernel_rfl)

def klow_s (z e w : Int) : Int := (tz_s (Go.bits .xor .u64 IntKind.u64.max (kall_s z e w)))
set_option maxRecDepth 100000 in
theorem klow_ok (z e w : Int)  : Ok Tryz.prog 128 [.agg [.v (.int .u64 z), .v (.int .u64 e), .v (.int .i64 w)]] (look []) (.v (.int .i64 (klow_s z e w))) (postOf [] []) := by
  unfold klow_s
  exact ok_run Tryz.func128 rfl rfl mixed 400 [(0, .nm 701), (1001, .call [] [] (.v (.int .u64 (kall_s z e w)))), (1003, .call [] [] (.v (.int .i64 (tz_s (Go.bits .xor .u64 IntKind.u64.max (kall_s z e w))))))] (all2 (kall_ok z e w ) (tz_ok (Go.bits .xor .u64 IntKind.u64.max (kall_s z e w)) )) (by kernel_rfl)

theorem klow_rng (z e w : Int) : 0 ≤ klow_s z e w ∧ klow_s z e w ≤ 64 := tz_rng _

def kin_s (z e w s : Int) : Int := (Go.bits .andNot .u64 (mask_s w) ((mask_s w).fdiv (2 ^ min ((s).toNat) 64)))
set_option maxRecDepth 100000 in
theorem kin_ok (z e w s : Int) (hs : 0 ≤ s) : Ok Tryz.prog 133 [.agg [.v (.int .u64 z), .v (.int .u64 e), .v (.int .i64 w)], .v (.int .u64 s)] (look []) (.v (.int .u64 (kin_s z e w s))) (postOf [] []) := by
  unfold kin_s
  exact ok_run Tryz.func133 rfl rfl mixed 400 [(0, .nm 701), (1002, .call [] [] (.v (.int .u64 (mask_s w)))), (1005, .call [] [] (.v (.int .u64 (mask_s w)))), (1007, .nat 0)] (all3 (mask_ok w ) (mask_ok w ) (show (0 : Int) ≤ s by omega)) (by kernel_rfl)

def kup_s (z e w s : Int) : Int × Int := ((krig_s w (Go.bits .or .u64 (IntKind.u64.wrap (z * 2 ^ min ((s).toNat) 64)) (IntKind.u64.wrap ((IntKind.u64.wrap (1 * 2 ^ min ((s).toNat) 64)) - 1))) (IntKind.u64.wrap (e * 2 ^ min ((s).toNat) 64))).1, (krig_s w (Go.bits .or .u64 (IntKind.u64.wrap (z * 2 ^ min ((s).toNat) 64)) (IntKind.u64.wrap ((IntKind.u64.wrap (1 * 2 ^ min ((s).toNat) 64)) - 1))) (IntKind.u64.wrap (e * 2 ^ min ((s).toNat) 64))).2)
set_option maxRecDepth 100000 in
theorem kup_ok (z e w s : Int) (hs : 0 ≤ s) : Ok Tryz.prog 131 [.agg [.v (.int .u64 z), .v (.int .u64 e), .v (.int .i64 w)], .v (.int .u64 s)] (look []) (.agg [.v (.int .u64 ((kup_s z e w s).1)), .v (.int .u64 ((kup_s z e w s).2))]) (postOf [] []) := by
  unfold kup_s
  exact ok_run Tryz.func131 rfl rfl mixed 400 [(0, .nm 701), (1, .nm 702), (1006, .nat 0), (1008, .nat 0), (1015, .nat 0), (1017, .call [] [] (.agg [.v (.int .u64 ((krig_s w (Go.bits .or .u64 (IntKind.u64.wrap (z * 2 ^ min ((s).toNat) 64)) (IntKind.u64.wrap ((IntKind.u64.wrap (1 * 2 ^ min ((s).toNat) 64)) - 1))) (IntKind.u64.wrap (e * 2 ^ min ((s).toNat) 64))).1)), .v (.int .u64 ((krig_s w (Go.bits .or .u64 (IntKind.u64.wrap (z * 2 ^ min ((s).toNat) 64)) (IntKind.u64.wrap ((IntKind.u64.wrap (1 * 2 ^ min ((s).toNat) 64)) - 1))) (IntKind.u64.wrap (e * 2 ^ min ((s).toNat) 64))).2))]))] (all4 (show (0 : Int) ≤ s by omega) (show (0 : Int) ≤ s by omega) (show (0 : Int) ≤ s by omega) (krig_ok w (Go.bits .or .u64 (IntKind.u64.wrap (z * 2 ^ min ((s).toNat) 64)) (IntKind.u64.wrap ((IntKind.u64.wrap (1 * 2 ^ min ((s).toNat) 64)) - 1))) (IntKind.u64.wrap (e * 2 ^ min ((s).toNat) 64)) )) (by kernel_rfl)

def kdow_s (z e w s : Int) : Int × Int := (Go.bits .or .u64 (z.fdiv (2 ^ min ((s).toNat) 64)) (kin_s z e w s), e.fdiv (2 ^ min ((s).toNat) 64))
set_option maxRecDepth 100000 in
theorem kdow_ok (z e w s : Int) (hs : 0 ≤ s) : Ok Tryz.prog 129 [.agg [.v (.int .u64 z), .v (.int .u64 e), .v (.int .i64 w)], .v (.int .u64 s)] (look []) (.agg [.v (.int .u64 ((kdow_s z e w s).1)), .v (.int .u64 ((kdow_s z e w s).2))]) (postOf [] []) := by
  unfold kdow_s
  exact ok_run Tryz.func129 rfl rfl mixed 400 [(0, .nm 701), (1, .nm 702), (1004, .nat 0), (1007, .call [] [] (.v (.int .u64 (kin_s z e w s)))), (1013, .nat 0)] (all3 (show (0 : Int) ≤ s by omega) (kin_ok z e w s (by omega)) (show (0 : Int) ≤ s by omega)) (by kernel_rfl)

def ksig_s (z e w s : Int) : Int × Int := (bif (Go.bits .and .u64 z (IntKind.u64.wrap (1 * 2 ^ min ((w - 1).toNat) 64))) != (0 : Int) then (Go.bits .or .u64 (z.fdiv (2 ^ min ((s).toNat) 64)) (kin_s z e w s), e.fdiv (2 ^ min ((s).toNat) 64)) else (bif (Go.bits .and .u64 e (IntKind.u64.wrap (1 * 2 ^ min ((w - 1).toNat) 64))) != (0 : Int) then (z.fdiv (2 ^ min ((s).toNat) 64), Go.bits .or .u64 (e.fdiv (2 ^ min ((s).toNat) 64)) (kin_s z e w s)) else (z.fdiv (2 ^ min ((s).toNat) 64), e.fdiv (2 ^ min ((s).toNat) 64))))
set_option maxRecDepth 100000 in
theorem ksig_ok (z e w s : Int) (hs : 0 ≤ s) (hw : 1 ≤ w ∧ w ≤ 64) : Ok Tryz.prog 130 [.agg [.v (.int .u64 z), .v (.int .u64 e), .v (.int .i64 w)], .v (.int .u64 s)] (look []) (.agg [.v (.int .u64 ((ksig_s z e w s).1)), .v (.int .u64 ((ksig_s z e w s).2))]) (postOf [] []) := by
  unfold ksig_s
  cases h3005 : ((Go.bits .and .u64 z (IntKind.u64.wrap (1 * 2 ^ min ((w - 1).toNat) 64))) != (0 : Int))
  · have p3005 := bne_eq_false_iff_eq.1 h3005
    cases h5005 : ((Go.bits .and .u64 e (IntKind.u64.wrap (1 * 2 ^ min ((w - 1).toNat) 64))) != (0 : Int))
    · have p5005 := bne_eq_false_iff_eq.1 h5005
      exact ok_run Tryz.func130 rfl rfl mixed 400 [(0, .nm 701), (1, .nm 702), (1002, .as_ (.v (.int .i64 (w - 1)))), (1003, .nat 0), (2004, .nat 0), (2009, .nat 0), (2011, .nm 703), (3005, .b false), (5005, .b false)] (all6 (wr64 (x := w - 1) (by omega)) (show (0 : Int) ≤ w - 1 by omega) (show (0 : Int) ≤ s by omega) (show (0 : Int) ≤ s by omega) h3005 h5005) (by kernel_rfl)
    · have p5005 := bne_iff_ne.1 h5005
      exact ok_run Tryz.func130 rfl rfl mixed 400 [(0, .nm 701), (1, .nm 702), (1002, .as_ (.v (.int .i64 (w - 1)))), (1003, .nat 0), (2004, .nat 0), (2009, .nat 0), (2011, .nm 703), (3005, .b false), (5005, .b true), (6004, .call [] [] (.v (.int .u64 (kin_s z e w s))))] (all7 (wr64 (x := w - 1) (by omega)) (show (0 : Int) ≤ w - 1 by omega) (show (0 : Int) ≤ s by omega) (show (0 : Int) ≤ s by omega) h3005 h5005 (kin_ok z e w s (by omega))) (by kernel_rfl)
  · have p3005 := bne_iff_ne.1 h3005
    exact ok_run Tryz.func130 rfl rfl mixed 400 [(0, .nm 701), (1, .nm 702), (1002, .as_ (.v (.int .i64 (w - 1)))), (1003, .nat 0), (2004, .nat 0), (2009, .nat 0), (2011, .nm 703), (3005, .b true), (4004, .call [] [] (.v (.int .u64 (kin_s z e w s))))] (all6 (wr64 (x := w - 1) (by omega)) (show (0 : Int) ≤ w - 1 by omega) (show (0 : Int) ≤ s by omega) (show (0 : Int) ≤ s by omega) h3005 (kin_ok z e w s (by omega))) (by kernel_rfl)

def ksum_s (a b w c e v : Int) (op : Int) : Int × Int := (bif (min (min (klow_s a b w) (klow_s c e v)) w) == (0 : Int) then ((0 : Int), (0 : Int)) else ((kof_s (min (min (klow_s a b w) (klow_s c e v)) w) (apply1_s op (min (min (klow_s a b w) (klow_s c e v)) w) b e)).1, (kof_s (min (min (klow_s a b w) (klow_s c e v)) w) (apply1_s op (min (min (klow_s a b w) (klow_s c e v)) w) b e)).2))
set_option maxRecDepth 100000 in
theorem ksum_ok (a b w c e v : Int) (op : Int) (hw : 1 ≤ w ∧ w ≤ 64) : Ok Tryz.prog 118 [.agg [.v (.int .u64 a), .v (.int .u64 b), .v (.int .i64 w), .v (.int .u64 c), .v (.int .u64 e), .v (.int .i64 v)], .v (.int .i64 op)] (look []) (.agg [.v (.int .u64 ((ksum_s a b w c e v op).1)), .v (.int .u64 ((ksum_s a b w c e v op).2))]) (postOf [] []) := by
  unfold ksum_s
  cases h2001 : ((min (min (klow_s a b w) (klow_s c e v)) w) == (0 : Int))
  · have p2001 := ne_of_beq_false h2001
    exact ok_run Tryz.func118 rfl rfl mixed 400 [(0, .nm 701), (1, .nm 702), (1002, .call [] [] (.v (.int .i64 (klow_s a b w)))), (1005, .call [] [] (.v (.int .i64 (klow_s c e v)))), (1009, .as_ (.v (.int .i64 (min (min (klow_s a b w) (klow_s c e v)) w)))), (2001, .b false), (4011, .call [] [] (.v (.int .u64 (apply1_s op (min (min (klow_s a b w) (klow_s c e v)) w) b e)))), (4012, .call [] [] (.agg [.v (.int .u64 ((kof_s (min (min (klow_s a b w) (klow_s c e v)) w) (apply1_s op (min (min (klow_s a b w) (klow_s c e v)) w) b e)).1)), .v (.int .u64 ((kof_s (min (min (klow_s a b w) (klow_s c e v)) w) (apply1_s op (min (min (klow_s a b w) (klow_s c e v)) w) b e)).2))]))] (all6 (klow_ok a b w ) (klow_ok c e v ) (minE3 .i64 (klow_s a b w) (klow_s c e v) w) h2001 (apply1_ok op (min (min (klow_s a b w) (klow_s c e v)) w) b e ) (kof_ok (min (min (klow_s a b w) (klow_s c e v)) w) (apply1_s op (min (min (klow_s a b w) (klow_s c e v)) w) b e) )) (by kernel_rfl)
  · have p2001 := eq_of_beq h2001
    exact ok_run Tryz.func118 rfl rfl mixed 400 [(0, .nm 701), (1, .nm 702), (1002, .call [] [] (.v (.int .i64 (klow_s a b w)))), (1005, .call [] [] (.v (.int .i64 (klow_s c e v)))), (1009, .as_ (.v (.int .i64 (min (min (klow_s a b w) (klow_s c e v)) w)))), (2001, .b true)] (all4 (klow_ok a b w ) (klow_ok c e v ) (minE3 .i64 (klow_s a b w) (klow_s c e v) w) h2001) (by kernel_rfl)
end Go.Proofs.YtdfifogicefkjaaGreatDoor.Sx.M5
/- What the functions of a chapter compute, as contracts; written by a program of this session. -/
open Go Go.Proofs Go.RowKit
namespace Go.Proofs.YtdfifogicefkjaaGreatDoor.Sx.M5
set_option linter.unusedVariables false
set_option linter.unusedSimpArgs false
theorem krig_rng (w z e : Int) : (0 ≤ (krig_s w z e).1 ∧ (krig_s w z e).1 < 18446744073709551616) ∧ (0 ≤ (krig_s w z e).2 ∧ (krig_s w z e).2 < 18446744073709551616) := by
  have h1 := cut_rng w z
  have h2 := cut_rng w e
  unfold krig_s
  cases (Go.bits .and .u64 (cut_s w z) (cut_s w e) != (0 : Int)) with
  | true => exact ⟨⟨Int.le_refl 0, (by decide : (0 : Int) < 18446744073709551616)⟩, ⟨Int.le_refl 0, (by decide : (0 : Int) < 18446744073709551616)⟩⟩
  | false => exact ⟨h1, h2⟩
theorem knum_rng (w z e : Int) : 0 ≤ (knum_s w z e).1 ∧ (knum_s w z e).1 < 18446744073709551616 := by
  unfold knum_s
  cases (!(((krig_s w z e).1 == (kof_s w (krig_s w z e).2).1) && ((krig_s w z e).2 == (kof_s w (krig_s w z e).2).2))) with
  | true => exact ⟨Int.le_refl 0, (by decide : (0 : Int) < 18446744073709551616)⟩
  | false => exact (krig_rng w z e).2

def kmov_s (a b w c e v : Int) (op : Int) : Int × Int := (bif !((knum_s w c e).2) then ((0 : Int), (0 : Int)) else (bif op == (18 : Int) then (bif decide (((knum_s w c e).1) ≥ (IntKind.u64.wrap (w))) then ((ksig_s a b w (IntKind.u64.wrap (w - 1))).1, (ksig_s a b w (IntKind.u64.wrap (w - 1))).2) else ((ksig_s a b w ((knum_s w c e).1)).1, (ksig_s a b w ((knum_s w c e).1)).2)) else (bif decide (((knum_s w c e).1) ≥ (IntKind.u64.wrap (w))) then ((kof_s w 0).1, (kof_s w 0).2) else (bif op == (16 : Int) then ((kup_s a b w ((knum_s w c e).1)).1, (kup_s a b w ((knum_s w c e).1)).2) else ((kdow_s a b w ((knum_s w c e).1)).1, (kdow_s a b w ((knum_s w c e).1)).2)))))
set_option maxRecDepth 100000 in
theorem kmov_ok (a b w c e v : Int) (op : Int) (hw : 1 ≤ w ∧ w ≤ 64) : Ok Tryz.prog 119 [.agg [.v (.int .u64 a), .v (.int .u64 b), .v (.int .i64 w), .v (.int .u64 c), .v (.int .u64 e), .v (.int .i64 v)], .v (.int .i64 op)] (look []) (.agg [.v (.int .u64 ((kmov_s a b w c e v op).1)), .v (.int .u64 ((kmov_s a b w c e v op).2))]) (postOf [] []) := by
  unfold kmov_s
  have nr := knum_rng w c e
  cases h2001 : (!((knum_s w c e).2))
  · have p2001 := notF h2001
    cases h6001 : (op == (18 : Int))
    · have p6001 := ne_of_beq_false h6001
      cases h4005 : (decide (((knum_s w c e).1) ≥ (IntKind.u64.wrap (w))))
      · have p4005 := of_decide_eq_false h4005
        cases h12001 : (op == (16 : Int))
        · have p12001 := ne_of_beq_false h12001
          exact ok_run Tryz.func119 rfl rfl mixed 400 [(0, .nm 701), (1, .nm 702), (1006, .call [] [] (.tup [.v (.int .u64 ((knum_s w c e).1)), .v (.bool ((knum_s w c e).2))])), (2001, .b false), (4005, .b false), (6001, .b false), (8001, .b false), (12001, .b false), (14002, .call [] [] (.agg [.v (.int .u64 ((kdow_s a b w ((knum_s w c e).1)).1)), .v (.int .u64 ((kdow_s a b w ((knum_s w c e).1)).2))]))] (all7 (knum_ok w c e ) h2001 h4005 h6001 h6001 h12001 (kdow_ok a b w ((knum_s w c e).1) (by omega))) (by kernel_rfl)
        · have p12001 := eq_of_beq h12001
          exact ok_run Tryz.func119 rfl rfl mixed 400 [(0, .nm 701), (1, .nm 702), (1006, .call [] [] (.tup [.v (.int .u64 ((knum_s w c e).1)), .v (.bool ((knum_s w c e).2))])), (2001, .b false), (4005, .b false), (6001, .b false), (8001, .b false), (12001, .b true), (14002, .call [] [] (.agg [.v (.int .u64 ((kup_s a b w ((knum_s w c e).1)).1)), .v (.int .u64 ((kup_s a b w ((knum_s w c e).1)).2))]))] (all7 (knum_ok w c e ) h2001 h4005 h6001 h6001 h12001 (kup_ok a b w ((knum_s w c e).1) (by omega))) (by kernel_rfl)
      · have p4005 := of_decide_eq_true h4005
        exact ok_run Tryz.func119 rfl rfl mixed 400 [(0, .nm 701), (1, .nm 702), (1006, .call [] [] (.tup [.v (.int .u64 ((knum_s w c e).1)), .v (.bool ((knum_s w c e).2))])), (2001, .b false), (4005, .b true), (6001, .b false), (8001, .b false), (11003, .call [] [] (.agg [.v (.int .u64 ((kof_s w 0).1)), .v (.int .u64 ((kof_s w 0).2))]))] (all6 (knum_ok w c e ) h2001 h4005 h6001 h6001 (kof_ok w 0 )) (by kernel_rfl)
    · have p6001 := eq_of_beq h6001
      cases h4005 : (decide (((knum_s w c e).1) ≥ (IntKind.u64.wrap (w))))
      · have p4005 := of_decide_eq_false h4005
        exact ok_run Tryz.func119 rfl rfl mixed 400 [(0, .nm 701), (1, .nm 702), (1006, .call [] [] (.tup [.v (.int .u64 ((knum_s w c e).1)), .v (.bool ((knum_s w c e).2))])), (2001, .b false), (4005, .b false), (6001, .b true), (8001, .b true), (14002, .call [] [] (.agg [.v (.int .u64 ((ksig_s a b w ((knum_s w c e).1)).1)), .v (.int .u64 ((ksig_s a b w ((knum_s w c e).1)).2))]))] (all6 (knum_ok w c e ) h2001 h4005 h6001 h6001 (ksig_ok a b w ((knum_s w c e).1) (by omega) (by omega))) (by kernel_rfl)
      · have p4005 := of_decide_eq_true h4005
        exact ok_run Tryz.func119 rfl rfl mixed 400 [(0, .nm 701), (1, .nm 702), (1006, .call [] [] (.tup [.v (.int .u64 ((knum_s w c e).1)), .v (.bool ((knum_s w c e).2))])), (2001, .b false), (4005, .b true), (6001, .b true), (7006, .as_ (.v (.int .i64 (w - 1)))), (14002, .call [] [] (.agg [.v (.int .u64 ((ksig_s a b w (IntKind.u64.wrap (w - 1))).1)), .v (.int .u64 ((ksig_s a b w (IntKind.u64.wrap (w - 1))).2))]))] (all6 (knum_ok w c e ) h2001 h4005 h6001 (wr64 (x := w - 1) (by omega)) (ksig_ok a b w (IntKind.u64.wrap (w - 1)) (by (simp only [wrap_u64] at * <;> omega)) (by omega))) (by kernel_rfl)
  · have p2001 := notT h2001
    exact ok_run Tryz.func119 rfl rfl mixed 400 [(0, .nm 701), (1, .nm 702), (1006, .call [] [] (.tup [.v (.int .u64 ((knum_s w c e).1)), .v (.bool ((knum_s w c e).2))])), (2001, .b true)] (all2 (knum_ok w c e ) h2001) (by kernel_rfl)

def ktab_s (a b w c e v : Int) (op : Int) : Int × Int := (bif op == (5 : Int) then (b, a) else (bif op == (13 : Int) then (Go.bits .or .u64 a c, Go.bits .and .u64 b e) else (bif op == (14 : Int) then (Go.bits .and .u64 a c, Go.bits .or .u64 b e) else (bif op == (15 : Int) then (Go.bits .andNot .u64 (Go.bits .and .u64 (kall_s a b w) (kall_s c e v)) (Go.bits .and .u64 (Go.bits .and .u64 (Go.bits .xor .u64 b e) (kall_s a b w)) (kall_s c e v)), Go.bits .and .u64 (Go.bits .and .u64 (Go.bits .xor .u64 b e) (kall_s a b w)) (kall_s c e v)) else (bif op == (8 : Int) then ((ksum_s a b w c e v op).1, (ksum_s a b w c e v op).2) else (bif op == (9 : Int) then ((ksum_s a b w c e v op).1, (ksum_s a b w c e v op).2) else (bif op == (10 : Int) then ((ksum_s a b w c e v op).1, (ksum_s a b w c e v op).2) else (bif op == (16 : Int) then ((kmov_s a b w c e v op).1, (kmov_s a b w c e v op).2) else (bif op == (17 : Int) then ((kmov_s a b w c e v op).1, (kmov_s a b w c e v op).2) else (bif op == (18 : Int) then ((kmov_s a b w c e v op).1, (kmov_s a b w c e v op).2) else (bif op == (19 : Int) then (bif (Go.bits .and .u64 b c) != (0 : Int) then ((kof_s 1 0).1, (kof_s 1 0).2) else (bif (Go.bits .and .u64 a e) != (0 : Int) then ((kof_s 1 0).1, (kof_s 1 0).2) else ((0 : Int), (0 : Int)))) else ((0 : Int), (0 : Int)))))))))))))
set_option maxRecDepth 100000 in
theorem ktab_ok (a b w c e v : Int) (op : Int) (hw : 1 ≤ w ∧ w ≤ 64) : Ok Tryz.prog 77 [.agg [.v (.int .u64 a), .v (.int .u64 b), .v (.int .i64 w), .v (.int .u64 c), .v (.int .u64 e), .v (.int .i64 v)], .v (.int .i64 op)] (look []) (.agg [.v (.int .u64 ((ktab_s a b w c e v op).1)), .v (.int .u64 ((ktab_s a b w c e v op).2))]) (postOf [] []) := by
  unfold ktab_s
  cases h3000 : (op == (5 : Int))
  · have p3000 := ne_of_beq_false h3000
    cases h5000 : (op == (13 : Int))
    · have p5000 := ne_of_beq_false h5000
      cases h7000 : (op == (14 : Int))
      · have p7000 := ne_of_beq_false h7000
        cases h9000 : (op == (15 : Int))
        · have p9000 := ne_of_beq_false h9000
          cases h12000 : (op == (8 : Int))
          · have p12000 := ne_of_beq_false h12000
            cases h13000 : (op == (9 : Int))
            · have p13000 := ne_of_beq_false h13000
              cases h14000 : (op == (10 : Int))
              · have p14000 := ne_of_beq_false h14000
                cases h16000 : (op == (16 : Int))
                · have p16000 := ne_of_beq_false h16000
                  cases h17000 : (op == (17 : Int))
                  · have p17000 := ne_of_beq_false h17000
                    cases h18000 : (op == (18 : Int))
                    · have p18000 := ne_of_beq_false h18000
                      cases h20000 : (op == (19 : Int))
                      · have p20000 := ne_of_beq_false h20000
                        exact ok_run Tryz.func77 rfl rfl mixed 400 [(0, .nm 701), (1, .nm 702), (1006, .nm 703), (1007, .nm 704), (3000, .b false), (5000, .b false), (7000, .b false), (9000, .b false), (12000, .b false), (13000, .b false), (14000, .b false), (16000, .b false), (17000, .b false), (18000, .b false), (20000, .b false)] (.cons h3000 (.cons h5000 (.cons h7000 (all8 h9000 h12000 h13000 h14000 h16000 h17000 h18000 h20000)))) (by kernel_rfl)
                      · have p20000 := eq_of_beq h20000
                        cases h21005 : ((Go.bits .and .u64 b c) != (0 : Int))
                        · have p21005 := bne_eq_false_iff_eq.1 h21005
                          cases h21012 : ((Go.bits .and .u64 a e) != (0 : Int))
                          · have p21012 := bne_eq_false_iff_eq.1 h21012
                            exact ok_run Tryz.func77 rfl rfl mixed 400 [(0, .nm 701), (1, .nm 702), (1006, .nm 703), (1007, .nm 704), (3000, .b false), (5000, .b false), (7000, .b false), (9000, .b false), (12000, .b false), (13000, .b false), (14000, .b false), (16000, .b false), (17000, .b false), (18000, .b false), (20000, .b true), (21005, .b false), (21012, .b false)] (.cons h3000 (.cons h5000 (.cons h7000 (.cons h9000 (.cons h12000 (all8 h13000 h14000 h16000 h17000 h18000 h20000 h21005 h21012)))))) (by kernel_rfl)
                          · have p21012 := bne_iff_ne.1 h21012
                            exact ok_run Tryz.func77 rfl rfl mixed 400 [(0, .nm 701), (1, .nm 702), (1006, .nm 703), (1007, .nm 704), (3000, .b false), (5000, .b false), (7000, .b false), (9000, .b false), (12000, .b false), (13000, .b false), (14000, .b false), (16000, .b false), (17000, .b false), (18000, .b false), (20000, .b true), (21005, .b false), (21012, .b true), (22000, .call [] [] (.agg [.v (.int .u64 ((kof_s 1 0).1)), .v (.int .u64 ((kof_s 1 0).2))]))] (.cons h3000 (.cons h5000 (.cons h7000 (.cons h9000 (.cons h12000 (.cons h13000 (all8 h14000 h16000 h17000 h18000 h20000 h21005 h21012 (kof_ok 1 0 )))))))) (by kernel_rfl)
                        · have p21005 := bne_iff_ne.1 h21005
                          exact ok_run Tryz.func77 rfl rfl mixed 400 [(0, .nm 701), (1, .nm 702), (1006, .nm 703), (1007, .nm 704), (3000, .b false), (5000, .b false), (7000, .b false), (9000, .b false), (12000, .b false), (13000, .b false), (14000, .b false), (16000, .b false), (17000, .b false), (18000, .b false), (20000, .b true), (21005, .b true), (22000, .call [] [] (.agg [.v (.int .u64 ((kof_s 1 0).1)), .v (.int .u64 ((kof_s 1 0).2))]))] (.cons h3000 (.cons h5000 (.cons h7000 (.cons h9000 (.cons h12000 (all8 h13000 h14000 h16000 h17000 h18000 h20000 h21005 (kof_ok 1 0 ))))))) (by kernel_rfl)
                    · have p18000 := eq_of_beq h18000
                      exact ok_run Tryz.func77 rfl rfl mixed 400 [(0, .nm 701), (1, .nm 702), (1006, .nm 703), (1007, .nm 704), (3000, .b false), (5000, .b false), (7000, .b false), (9000, .b false), (12000, .b false), (13000, .b false), (14000, .b false), (16000, .b false), (17000, .b false), (18000, .b true), (19002, .call [] [] (.agg [.v (.int .u64 ((kmov_s a b w c e v op).1)), .v (.int .u64 ((kmov_s a b w c e v op).2))]))] (.cons h3000 (.cons h5000 (.cons h7000 (all8 h9000 h12000 h13000 h14000 h16000 h17000 h18000 (kmov_ok a b w c e v op (by omega)))))) (by kernel_rfl)
                  · have p17000 := eq_of_beq h17000
                    exact ok_run Tryz.func77 rfl rfl mixed 400 [(0, .nm 701), (1, .nm 702), (1006, .nm 703), (1007, .nm 704), (3000, .b false), (5000, .b false), (7000, .b false), (9000, .b false), (12000, .b false), (13000, .b false), (14000, .b false), (16000, .b false), (17000, .b true), (19002, .call [] [] (.agg [.v (.int .u64 ((kmov_s a b w c e v op).1)), .v (.int .u64 ((kmov_s a b w c e v op).2))]))] (.cons h3000 (.cons h5000 (all8 h7000 h9000 h12000 h13000 h14000 h16000 h17000 (kmov_ok a b w c e v op (by omega))))) (by kernel_rfl)
                · have p16000 := eq_of_beq h16000
                  exact ok_run Tryz.func77 rfl rfl mixed 400 [(0, .nm 701), (1, .nm 702), (1006, .nm 703), (1007, .nm 704), (3000, .b false), (5000, .b false), (7000, .b false), (9000, .b false), (12000, .b false), (13000, .b false), (14000, .b false), (16000, .b true), (19002, .call [] [] (.agg [.v (.int .u64 ((kmov_s a b w c e v op).1)), .v (.int .u64 ((kmov_s a b w c e v op).2))]))] (.cons h3000 (all8 h5000 h7000 h9000 h12000 h13000 h14000 h16000 (kmov_ok a b w c e v op (by omega)))) (by kernel_rfl)
              · have p14000 := eq_of_beq h14000
                exact ok_run Tryz.func77 rfl rfl mixed 400 [(0, .nm 701), (1, .nm 702), (1006, .nm 703), (1007, .nm 704), (3000, .b false), (5000, .b false), (7000, .b false), (9000, .b false), (12000, .b false), (13000, .b false), (14000, .b true), (15002, .call [] [] (.agg [.v (.int .u64 ((ksum_s a b w c e v op).1)), .v (.int .u64 ((ksum_s a b w c e v op).2))]))] (all8 h3000 h5000 h7000 h9000 h12000 h13000 h14000 (ksum_ok a b w c e v op (by omega))) (by kernel_rfl)
            · have p13000 := eq_of_beq h13000
              exact ok_run Tryz.func77 rfl rfl mixed 400 [(0, .nm 701), (1, .nm 702), (1006, .nm 703), (1007, .nm 704), (3000, .b false), (5000, .b false), (7000, .b false), (9000, .b false), (12000, .b false), (13000, .b true), (15002, .call [] [] (.agg [.v (.int .u64 ((ksum_s a b w c e v op).1)), .v (.int .u64 ((ksum_s a b w c e v op).2))]))] (all7 h3000 h5000 h7000 h9000 h12000 h13000 (ksum_ok a b w c e v op (by omega))) (by kernel_rfl)
          · have p12000 := eq_of_beq h12000
            exact ok_run Tryz.func77 rfl rfl mixed 400 [(0, .nm 701), (1, .nm 702), (1006, .nm 703), (1007, .nm 704), (3000, .b false), (5000, .b false), (7000, .b false), (9000, .b false), (12000, .b true), (15002, .call [] [] (.agg [.v (.int .u64 ((ksum_s a b w c e v op).1)), .v (.int .u64 ((ksum_s a b w c e v op).2))]))] (all6 h3000 h5000 h7000 h9000 h12000 (ksum_ok a b w c e v op (by omega))) (by kernel_rfl)
        · have p9000 := eq_of_beq h9000
          exact ok_run Tryz.func77 rfl rfl mixed 400 [(0, .nm 701), (1, .nm 702), (1006, .nm 703), (1007, .nm 704), (3000, .b false), (5000, .b false), (7000, .b false), (9000, .b true), (10007, .call [] [] (.v (.int .u64 (kall_s a b w)))), (10011, .call [] [] (.v (.int .u64 (kall_s c e v)))), (11002, .call [] [] (.v (.int .u64 (kall_s a b w)))), (11005, .call [] [] (.v (.int .u64 (kall_s c e v))))] (all8 h3000 h5000 h7000 h9000 (kall_ok a b w ) (kall_ok c e v ) (kall_ok a b w ) (kall_ok c e v )) (by kernel_rfl)
      · have p7000 := eq_of_beq h7000
        exact ok_run Tryz.func77 rfl rfl mixed 400 [(0, .nm 701), (1, .nm 702), (1006, .nm 703), (1007, .nm 704), (3000, .b false), (5000, .b false), (7000, .b true)] (all3 h3000 h5000 h7000) (by kernel_rfl)
    · have p5000 := eq_of_beq h5000
      exact ok_run Tryz.func77 rfl rfl mixed 400 [(0, .nm 701), (1, .nm 702), (1006, .nm 703), (1007, .nm 704), (3000, .b false), (5000, .b true)] (all2 h3000 h5000) (by kernel_rfl)
  · have p3000 := eq_of_beq h3000
    exact ok_run Tryz.func77 rfl rfl mixed 400 [(0, .nm 701), (1, .nm 702), (1006, .nm 703), (1007, .nm 704), (3000, .b true)] (all1 h3000) (by kernel_rfl)

def kapp_s (op w a b c e : Int) : Int × Int := (bif decide (op < (5 : Int)) then ((0 : Int), (0 : Int)) else (bif decide (op > (21 : Int)) then ((0 : Int), (0 : Int)) else (bif op == (6 : Int) then ((0 : Int), (0 : Int)) else (bif op == (7 : Int) then ((0 : Int), (0 : Int)) else (bif (knum_s (max 1 (min w 64)) a b).2 then (bif (knum_s (max 1 (min w 64)) c e).2 then (bif decide (op ≥ (19 : Int)) then ((kof_s 1 (apply1_s op (max 1 (min w 64)) ((knum_s (max 1 (min w 64)) a b).1) ((knum_s (max 1 (min w 64)) c e).1))).1, (kof_s 1 (apply1_s op (max 1 (min w 64)) ((knum_s (max 1 (min w 64)) a b).1) ((knum_s (max 1 (min w 64)) c e).1))).2) else ((kof_s (max 1 (min w 64)) (apply1_s op (max 1 (min w 64)) ((knum_s (max 1 (min w 64)) a b).1) ((knum_s (max 1 (min w 64)) c e).1))).1, (kof_s (max 1 (min w 64)) (apply1_s op (max 1 (min w 64)) ((knum_s (max 1 (min w 64)) a b).1) ((knum_s (max 1 (min w 64)) c e).1))).2)) else (bif op == (5 : Int) then (bif decide (op ≥ (19 : Int)) then ((kof_s 1 (apply1_s op (max 1 (min w 64)) ((knum_s (max 1 (min w 64)) a b).1) ((knum_s (max 1 (min w 64)) c e).1))).1, (kof_s 1 (apply1_s op (max 1 (min w 64)) ((knum_s (max 1 (min w 64)) a b).1) ((knum_s (max 1 (min w 64)) c e).1))).2) else ((kof_s (max 1 (min w 64)) (apply1_s op (max 1 (min w 64)) ((knum_s (max 1 (min w 64)) a b).1) ((knum_s (max 1 (min w 64)) c e).1))).1, (kof_s (max 1 (min w 64)) (apply1_s op (max 1 (min w 64)) ((knum_s (max 1 (min w 64)) a b).1) ((knum_s (max 1 (min w 64)) c e).1))).2)) else ((ktab_s ((krig_s (max 1 (min w 64)) a b).1) ((krig_s (max 1 (min w 64)) a b).2) (max 1 (min w 64)) ((krig_s (max 1 (min w 64)) c e).1) ((krig_s (max 1 (min w 64)) c e).2) (max 1 (min w 64)) op).1, (ktab_s ((krig_s (max 1 (min w 64)) a b).1) ((krig_s (max 1 (min w 64)) a b).2) (max 1 (min w 64)) ((krig_s (max 1 (min w 64)) c e).1) ((krig_s (max 1 (min w 64)) c e).2) (max 1 (min w 64)) op).2))) else ((ktab_s ((krig_s (max 1 (min w 64)) a b).1) ((krig_s (max 1 (min w 64)) a b).2) (max 1 (min w 64)) ((krig_s (max 1 (min w 64)) c e).1) ((krig_s (max 1 (min w 64)) c e).2) (max 1 (min w 64)) op).1, (ktab_s ((krig_s (max 1 (min w 64)) a b).1) ((krig_s (max 1 (min w 64)) a b).2) (max 1 (min w 64)) ((krig_s (max 1 (min w 64)) c e).1) ((krig_s (max 1 (min w 64)) c e).2) (max 1 (min w 64)) op).2))))))
set_option maxRecDepth 100000 in
theorem kapp_ok (op w a b c e : Int)  : Ok Tryz.prog 46 [.v (.int .i64 op), .v (.int .i64 w), .agg [.v (.int .u64 a), .v (.int .u64 b)], .agg [.v (.int .u64 c), .v (.int .u64 e)]] (look []) (.agg [.v (.int .u64 ((kapp_s op w a b c e).1)), .v (.int .u64 ((kapp_s op w a b c e).2))]) (postOf [] []) := by
  unfold kapp_s
  cases h1001 : (decide (op < (5 : Int)))
  · have p1001 := of_decide_eq_false h1001
    cases h1004 : (decide (op > (21 : Int)))
    · have p1004 := of_decide_eq_false h1004
      cases h1008 : (op == (6 : Int))
      · have p1008 := ne_of_beq_false h1008
        cases h1012 : (op == (7 : Int))
        · have p1012 := ne_of_beq_false h1012
          cases h4005 : ((knum_s (max 1 (min w 64)) a b).2)
          · exact ok_run Tryz.func46 rfl rfl mixed 400 [(0, .nm 701), (1, .nm 702), (2, .nm 703), (1001, .b false), (1004, .b false), (1008, .b false), (1012, .b false), (3001, .as_ (.v (.int .i64 (min w 64)))), (3002, .as_ (.v (.int .i64 (max 1 (min w 64))))), (4002, .call [] [] (.tup [.v (.int .u64 ((knum_s (max 1 (min w 64)) a b).1)), .v (.bool ((knum_s (max 1 (min w 64)) a b).2))])), (4005, .b false), (5002, .call [] [] (.tup [.v (.int .u64 ((knum_s (max 1 (min w 64)) c e).1)), .v (.bool ((knum_s (max 1 (min w 64)) c e).2))])), (10002, .call [] [] (.agg [.v (.int .u64 ((krig_s (max 1 (min w 64)) a b).1)), .v (.int .u64 ((krig_s (max 1 (min w 64)) a b).2))])), (10007, .call [] [] (.agg [.v (.int .u64 ((krig_s (max 1 (min w 64)) c e).1)), .v (.int .u64 ((krig_s (max 1 (min w 64)) c e).2))])), (10012, .call [] [] (.agg [.v (.int .u64 ((ktab_s ((krig_s (max 1 (min w 64)) a b).1) ((krig_s (max 1 (min w 64)) a b).2) (max 1 (min w 64)) ((krig_s (max 1 (min w 64)) c e).1) ((krig_s (max 1 (min w 64)) c e).2) (max 1 (min w 64)) op).1)), .v (.int .u64 ((ktab_s ((krig_s (max 1 (min w 64)) a b).1) ((krig_s (max 1 (min w 64)) a b).2) (max 1 (min w 64)) ((krig_s (max 1 (min w 64)) c e).1) ((krig_s (max 1 (min w 64)) c e).2) (max 1 (min w 64)) op).2))]))] (.cons h1001 (.cons h1004 (.cons h1008 (.cons h1012 (all8 (minE .i64 w 64) (maxE .i64 1 (min w 64)) (knum_ok (max 1 (min w 64)) a b ) h4005 (knum_ok (max 1 (min w 64)) c e ) (krig_ok (max 1 (min w 64)) a b ) (krig_ok (max 1 (min w 64)) c e ) (ktab_ok ((krig_s (max 1 (min w 64)) a b).1) ((krig_s (max 1 (min w 64)) a b).2) (max 1 (min w 64)) ((krig_s (max 1 (min w 64)) c e).1) ((krig_s (max 1 (min w 64)) c e).2) (max 1 (min w 64)) op (by omega))))))) (by kernel_rfl)
          · cases h5005 : ((knum_s (max 1 (min w 64)) c e).2)
            · cases h6005 : (op == (5 : Int))
              · have p6005 := ne_of_beq_false h6005
                exact ok_run Tryz.func46 rfl rfl mixed 400 [(0, .nm 701), (1, .nm 702), (2, .nm 703), (1001, .b false), (1004, .b false), (1008, .b false), (1012, .b false), (3001, .as_ (.v (.int .i64 (min w 64)))), (3002, .as_ (.v (.int .i64 (max 1 (min w 64))))), (4002, .call [] [] (.tup [.v (.int .u64 ((knum_s (max 1 (min w 64)) a b).1)), .v (.bool ((knum_s (max 1 (min w 64)) a b).2))])), (4005, .b true), (5002, .call [] [] (.tup [.v (.int .u64 ((knum_s (max 1 (min w 64)) c e).1)), .v (.bool ((knum_s (max 1 (min w 64)) c e).2))])), (5005, .b false), (6005, .b false), (10002, .call [] [] (.agg [.v (.int .u64 ((krig_s (max 1 (min w 64)) a b).1)), .v (.int .u64 ((krig_s (max 1 (min w 64)) a b).2))])), (10007, .call [] [] (.agg [.v (.int .u64 ((krig_s (max 1 (min w 64)) c e).1)), .v (.int .u64 ((krig_s (max 1 (min w 64)) c e).2))])), (10012, .call [] [] (.agg [.v (.int .u64 ((ktab_s ((krig_s (max 1 (min w 64)) a b).1) ((krig_s (max 1 (min w 64)) a b).2) (max 1 (min w 64)) ((krig_s (max 1 (min w 64)) c e).1) ((krig_s (max 1 (min w 64)) c e).2) (max 1 (min w 64)) op).1)), .v (.int .u64 ((ktab_s ((krig_s (max 1 (min w 64)) a b).1) ((krig_s (max 1 (min w 64)) a b).2) (max 1 (min w 64)) ((krig_s (max 1 (min w 64)) c e).1) ((krig_s (max 1 (min w 64)) c e).2) (max 1 (min w 64)) op).2))]))] (.cons h1001 (.cons h1004 (.cons h1008 (.cons h1012 (.cons (minE .i64 w 64) (.cons (maxE .i64 1 (min w 64)) (all8 (knum_ok (max 1 (min w 64)) a b ) h4005 (knum_ok (max 1 (min w 64)) c e ) h5005 h6005 (krig_ok (max 1 (min w 64)) a b ) (krig_ok (max 1 (min w 64)) c e ) (ktab_ok ((krig_s (max 1 (min w 64)) a b).1) ((krig_s (max 1 (min w 64)) a b).2) (max 1 (min w 64)) ((krig_s (max 1 (min w 64)) c e).1) ((krig_s (max 1 (min w 64)) c e).2) (max 1 (min w 64)) op (by omega))))))))) (by kernel_rfl)
              · have p6005 := eq_of_beq h6005
                cases h7001 : (decide (op ≥ (19 : Int)))
                · have p7001 := of_decide_eq_false h7001
                  exact ok_run Tryz.func46 rfl rfl mixed 400 [(0, .nm 701), (1, .nm 702), (2, .nm 703), (1001, .b false), (1004, .b false), (1008, .b false), (1012, .b false), (3001, .as_ (.v (.int .i64 (min w 64)))), (3002, .as_ (.v (.int .i64 (max 1 (min w 64))))), (4002, .call [] [] (.tup [.v (.int .u64 ((knum_s (max 1 (min w 64)) a b).1)), .v (.bool ((knum_s (max 1 (min w 64)) a b).2))])), (4005, .b true), (5002, .call [] [] (.tup [.v (.int .u64 ((knum_s (max 1 (min w 64)) c e).1)), .v (.bool ((knum_s (max 1 (min w 64)) c e).2))])), (5005, .b false), (6005, .b true), (7001, .b false), (9005, .call [] [] (.v (.int .u64 (apply1_s op (max 1 (min w 64)) ((knum_s (max 1 (min w 64)) a b).1) ((knum_s (max 1 (min w 64)) c e).1))))), (9006, .call [] [] (.agg [.v (.int .u64 ((kof_s (max 1 (min w 64)) (apply1_s op (max 1 (min w 64)) ((knum_s (max 1 (min w 64)) a b).1) ((knum_s (max 1 (min w 64)) c e).1))).1)), .v (.int .u64 ((kof_s (max 1 (min w 64)) (apply1_s op (max 1 (min w 64)) ((knum_s (max 1 (min w 64)) a b).1) ((knum_s (max 1 (min w 64)) c e).1))).2))]))] (.cons h1001 (.cons h1004 (.cons h1008 (.cons h1012 (.cons (minE .i64 w 64) (.cons (maxE .i64 1 (min w 64)) (all8 (knum_ok (max 1 (min w 64)) a b ) h4005 (knum_ok (max 1 (min w 64)) c e ) h5005 h6005 h7001 (apply1_ok op (max 1 (min w 64)) ((knum_s (max 1 (min w 64)) a b).1) ((knum_s (max 1 (min w 64)) c e).1) ) (kof_ok (max 1 (min w 64)) (apply1_s op (max 1 (min w 64)) ((knum_s (max 1 (min w 64)) a b).1) ((knum_s (max 1 (min w 64)) c e).1)) )))))))) (by kernel_rfl)
                · have p7001 := of_decide_eq_true h7001
                  exact ok_run Tryz.func46 rfl rfl mixed 400 [(0, .nm 701), (1, .nm 702), (2, .nm 703), (1001, .b false), (1004, .b false), (1008, .b false), (1012, .b false), (3001, .as_ (.v (.int .i64 (min w 64)))), (3002, .as_ (.v (.int .i64 (max 1 (min w 64))))), (4002, .call [] [] (.tup [.v (.int .u64 ((knum_s (max 1 (min w 64)) a b).1)), .v (.bool ((knum_s (max 1 (min w 64)) a b).2))])), (4005, .b true), (5002, .call [] [] (.tup [.v (.int .u64 ((knum_s (max 1 (min w 64)) c e).1)), .v (.bool ((knum_s (max 1 (min w 64)) c e).2))])), (5005, .b false), (6005, .b true), (7001, .b true), (8004, .call [] [] (.v (.int .u64 (apply1_s op (max 1 (min w 64)) ((knum_s (max 1 (min w 64)) a b).1) ((knum_s (max 1 (min w 64)) c e).1))))), (8005, .call [] [] (.agg [.v (.int .u64 ((kof_s 1 (apply1_s op (max 1 (min w 64)) ((knum_s (max 1 (min w 64)) a b).1) ((knum_s (max 1 (min w 64)) c e).1))).1)), .v (.int .u64 ((kof_s 1 (apply1_s op (max 1 (min w 64)) ((knum_s (max 1 (min w 64)) a b).1) ((knum_s (max 1 (min w 64)) c e).1))).2))]))] (.cons h1001 (.cons h1004 (.cons h1008 (.cons h1012 (.cons (minE .i64 w 64) (.cons (maxE .i64 1 (min w 64)) (all8 (knum_ok (max 1 (min w 64)) a b ) h4005 (knum_ok (max 1 (min w 64)) c e ) h5005 h6005 h7001 (apply1_ok op (max 1 (min w 64)) ((knum_s (max 1 (min w 64)) a b).1) ((knum_s (max 1 (min w 64)) c e).1) ) (kof_ok 1 (apply1_s op (max 1 (min w 64)) ((knum_s (max 1 (min w 64)) a b).1) ((knum_s (max 1 (min w 64)) c e).1)) )))))))) (by kernel_rfl)
            · cases h7001 : (decide (op ≥ (19 : Int)))
              · have p7001 := of_decide_eq_false h7001
                exact ok_run Tryz.func46 rfl rfl mixed 400 [(0, .nm 701), (1, .nm 702), (2, .nm 703), (1001, .b false), (1004, .b false), (1008, .b false), (1012, .b false), (3001, .as_ (.v (.int .i64 (min w 64)))), (3002, .as_ (.v (.int .i64 (max 1 (min w 64))))), (4002, .call [] [] (.tup [.v (.int .u64 ((knum_s (max 1 (min w 64)) a b).1)), .v (.bool ((knum_s (max 1 (min w 64)) a b).2))])), (4005, .b true), (5002, .call [] [] (.tup [.v (.int .u64 ((knum_s (max 1 (min w 64)) c e).1)), .v (.bool ((knum_s (max 1 (min w 64)) c e).2))])), (5005, .b true), (7001, .b false), (9005, .call [] [] (.v (.int .u64 (apply1_s op (max 1 (min w 64)) ((knum_s (max 1 (min w 64)) a b).1) ((knum_s (max 1 (min w 64)) c e).1))))), (9006, .call [] [] (.agg [.v (.int .u64 ((kof_s (max 1 (min w 64)) (apply1_s op (max 1 (min w 64)) ((knum_s (max 1 (min w 64)) a b).1) ((knum_s (max 1 (min w 64)) c e).1))).1)), .v (.int .u64 ((kof_s (max 1 (min w 64)) (apply1_s op (max 1 (min w 64)) ((knum_s (max 1 (min w 64)) a b).1) ((knum_s (max 1 (min w 64)) c e).1))).2))]))] (.cons h1001 (.cons h1004 (.cons h1008 (.cons h1012 (.cons (minE .i64 w 64) (all8 (maxE .i64 1 (min w 64)) (knum_ok (max 1 (min w 64)) a b ) h4005 (knum_ok (max 1 (min w 64)) c e ) h5005 h7001 (apply1_ok op (max 1 (min w 64)) ((knum_s (max 1 (min w 64)) a b).1) ((knum_s (max 1 (min w 64)) c e).1) ) (kof_ok (max 1 (min w 64)) (apply1_s op (max 1 (min w 64)) ((knum_s (max 1 (min w 64)) a b).1) ((knum_s (max 1 (min w 64)) c e).1)) ))))))) (by kernel_rfl)
              · have p7001 := of_decide_eq_true h7001
                exact ok_run Tryz.func46 rfl rfl mixed 400 [(0, .nm 701), (1, .nm 702), (2, .nm 703), (1001, .b false), (1004, .b false), (1008, .b false), (1012, .b false), (3001, .as_ (.v (.int .i64 (min w 64)))), (3002, .as_ (.v (.int .i64 (max 1 (min w 64))))), (4002, .call [] [] (.tup [.v (.int .u64 ((knum_s (max 1 (min w 64)) a b).1)), .v (.bool ((knum_s (max 1 (min w 64)) a b).2))])), (4005, .b true), (5002, .call [] [] (.tup [.v (.int .u64 ((knum_s (max 1 (min w 64)) c e).1)), .v (.bool ((knum_s (max 1 (min w 64)) c e).2))])), (5005, .b true), (7001, .b true), (8004, .call [] [] (.v (.int .u64 (apply1_s op (max 1 (min w 64)) ((knum_s (max 1 (min w 64)) a b).1) ((knum_s (max 1 (min w 64)) c e).1))))), (8005, .call [] [] (.agg [.v (.int .u64 ((kof_s 1 (apply1_s op (max 1 (min w 64)) ((knum_s (max 1 (min w 64)) a b).1) ((knum_s (max 1 (min w 64)) c e).1))).1)), .v (.int .u64 ((kof_s 1 (apply1_s op (max 1 (min w 64)) ((knum_s (max 1 (min w 64)) a b).1) ((knum_s (max 1 (min w 64)) c e).1))).2))]))] (.cons h1001 (.cons h1004 (.cons h1008 (.cons h1012 (.cons (minE .i64 w 64) (all8 (maxE .i64 1 (min w 64)) (knum_ok (max 1 (min w 64)) a b ) h4005 (knum_ok (max 1 (min w 64)) c e ) h5005 h7001 (apply1_ok op (max 1 (min w 64)) ((knum_s (max 1 (min w 64)) a b).1) ((knum_s (max 1 (min w 64)) c e).1) ) (kof_ok 1 (apply1_s op (max 1 (min w 64)) ((knum_s (max 1 (min w 64)) a b).1) ((knum_s (max 1 (min w 64)) c e).1)) ))))))) (by kernel_rfl)
        · have p1012 := eq_of_beq h1012
          exact ok_run Tryz.func46 rfl rfl mixed 400 [(0, .nm 701), (1, .nm 702), (2, .nm 703), (1001, .b false), (1004, .b false), (1008, .b false), (1012, .b true)] (all4 h1001 h1004 h1008 h1012) (by kernel_rfl)
      · have p1008 := eq_of_beq h1008
        exact ok_run Tryz.func46 rfl rfl mixed 400 [(0, .nm 701), (1, .nm 702), (2, .nm 703), (1001, .b false), (1004, .b false), (1008, .b true)] (all3 h1001 h1004 h1008) (by kernel_rfl)
    · have p1004 := of_decide_eq_true h1004
      exact ok_run Tryz.func46 rfl rfl mixed 400 [(0, .nm 701), (1, .nm 702), (2, .nm 703), (1001, .b false), (1004, .b true)] (all2 h1001 h1004) (by kernel_rfl)
  · have p1001 := of_decide_eq_true h1001
    exact ok_run Tryz.func46 rfl rfl mixed 400 [(0, .nm 701), (1, .nm 702), (2, .nm 703), (1001, .b true)] (all1 h1001) (by kernel_rfl)
end Go.Proofs.YtdfifogicefkjaaGreatDoor.Sx.M5
