/- What the functions of a chapter compute, as contracts; written by a program of this session. -/
import Derived.Test.YtjlfgbaphnpbfaaDoorK3
open Go Go.Proofs Go.RowKit
namespace Go.Proofs.YtjlfgbaphnpbfaaDoor.Sx.M5
set_option linter.unusedVariables false
set_option linter.unusedSimpArgs false
theorem minE3 (k : IntKind) (x y z : Int) : AV.v (.int k (if z < (if y < x then y else x) then z else (if y < x then y else x))) = AV.v (.int k (min (min x y) z)) := by
  congr 2
  split <;> split <;> omega

theorem tab_all : Lib.deBruijn64tab.all (Nat.blt · 64) = true := by rfl
theorem tab_rng (j : Nat) : Lib.deBruijn64tab.getD j 0 < 64 := by
  rw [List.getD_eq_getElem?_getD]
  cases h : Lib.deBruijn64tab[j]? with
  | none => decide
  | some y =>
    have := List.all_eq_true.1 tab_all y (List.mem_of_getElem? h)
    exact Nat.blt_eq ▸ this
theorem wrap_b (n : Nat) (h : n < 64) : 0 ≤ IntKind.i64.wrap (n : Int) ∧ IntKind.i64.wrap (n : Int) ≤ 64 := by
  rw [IntKind.wrap_i64]; omega
theorem bif_b (b : Bool) (W : Int) (h : 0 ≤ W ∧ W ≤ 64) : 0 ≤ (bif b then 64 else W) ∧ (bif b then 64 else W) ≤ 64 := by
  cases b with
  | true => exact ⟨(by decide : (0:Int) ≤ 64), (by decide : (64:Int) ≤ 64)⟩
  | false => exact h
theorem tz_def (x : Int) : tz_s x = (bif x == (0 : Int) then (64 : Int) else (IntKind.i64.wrap (((Lib.deBruijn64tab.getD ((tzi x).toNat) 0 : Nat) : Int)))) := rfl
theorem tz_rng (x : Int) : 0 ≤ tz_s x ∧ tz_s x ≤ 64 := by
  rw [tz_def]
  exact bif_b _ _ (wrap_b _ (tab_rng _))

def krig_s (w z e : Int) : Int × Int := (bif (Go.bits .and .u64 (cut_s w z) (cut_s w e)) != (0 : Int) then ((0 : Int), (0 : Int)) else ((cut_s w z), (cut_s w e)))
set_option maxRecDepth 100000 in
theorem krig_ok (w z e : Int)  : Ok Tryd.prog 7 [.v (.int .i64 w), .agg [.v (.int .u64 z), .v (.int .u64 e)]] (look []) (.agg [.v (.int .u64 ((krig_s w z e).1)), .v (.int .u64 ((krig_s w z e).2))]) (postOf [] []) := by
  unfold krig_s
  cases h2005 : ((Go.bits .and .u64 (cut_s w z) (cut_s w e)) != (0 : Int))
  · have p2005 := bne_eq_false_iff_eq.1 h2005
    exact ok_run Tryd.func7 rfl rfl mixed 400 [(0, .nm 701), (1, .nm 702), (1003, .call [] [] (.v (.int .u64 (cut_s w z)))), (1007, .call [] [] (.v (.int .u64 (cut_s w e)))), (2005, .b false)] (all3 (cut_ok w z ) (cut_ok w e ) h2005) (by kernel_rfl)
  · have p2005 := bne_iff_ne.1 h2005
    exact ok_run Tryd.func7 rfl rfl mixed 400 [(0, .nm 701), (1, .nm 702), (1003, .call [] [] (.v (.int .u64 (cut_s w z)))), (1007, .call [] [] (.v (.int .u64 (cut_s w e)))), (2005, .b true)] (all3 (cut_ok w z ) (cut_ok w e ) h2005) (by kernel_rfl)

def kof_s (w x : Int) : Int × Int := (Go.bits .xor .u64 (cut_s w x) (mask_s w), (cut_s w x))
set_option maxRecDepth 100000 in
theorem kof_ok (w x : Int)  : Ok Tryd.prog 11 [.v (.int .i64 w), .v (.int .u64 x)] (look []) (.agg [.v (.int .u64 ((kof_s w x).1)), .v (.int .u64 ((kof_s w x).2))]) (postOf [] []) := by
  unfold kof_s
  exact ok_run Tryd.func11 rfl rfl mixed 400 [(0, .nm 701), (1002, .call [] [] (.v (.int .u64 (cut_s w x)))), (2002, .call [] [] (.v (.int .u64 (mask_s w))))] (all2 (cut_ok w x ) (mask_ok w )) (by kernel_rfl)

def knum_s (w z e : Int) : Int × Bool := (bif !(((krig_s w z e).1) == ((kof_s w ((krig_s w z e).2)).1) && (((krig_s w z e).2) == ((kof_s w ((krig_s w z e).2)).2))) then ((0 : Int), false) else ((krig_s w z e).2, true))
set_option maxRecDepth 100000 in
theorem knum_ok (w z e : Int)  : Ok Tryd.prog 15 [.v (.int .i64 w), .agg [.v (.int .u64 z), .v (.int .u64 e)]] (look []) (.tup [.v (.int .u64 ((knum_s w z e).1)), .v (.bool ((knum_s w z e).2))]) (postOf [] []) := by
  unfold knum_s
  cases h2005 : (!(((krig_s w z e).1) == ((kof_s w ((krig_s w z e).2)).1) && (((krig_s w z e).2) == ((kof_s w ((krig_s w z e).2)).2))))
  · have p2005 := notF h2005
    exact ok_run Tryd.func15 rfl rfl mixed 400 [(0, .nm 701), (1002, .call [] [] (.agg [.v (.int .u64 ((krig_s w z e).1)), .v (.int .u64 ((krig_s w z e).2))])), (2004, .call [] [] (.agg [.v (.int .u64 ((kof_s w ((krig_s w z e).2)).1)), .v (.int .u64 ((kof_s w ((krig_s w z e).2)).2))])), (2005, .b false)] (all3 (krig_ok w z e ) (kof_ok w ((krig_s w z e).2) ) h2005) (by kernel_rfl)
  · have p2005 := notT h2005
    exact ok_run Tryd.func15 rfl rfl mixed 400 [(0, .nm 701), (1002, .call [] [] (.agg [.v (.int .u64 ((krig_s w z e).1)), .v (.int .u64 ((krig_s w z e).2))])), (2004, .call [] [] (.agg [.v (.int .u64 ((kof_s w ((krig_s w z e).2)).1)), .v (.int .u64 ((kof_s w ((krig_s w z e).2)).2))])), (2005, .b true)] (all3 (krig_ok w z e ) (kof_ok w ((krig_s w z e).2) ) h2005) (by kernel_rfl)

def khas_s (w z e x : Int) : Bool := (bif (Go.bits .andNot .u64 ((krig_s w z e).2) x) == (0 : Int) then ((Go.bits .and .u64 ((krig_s w z e).1) x) == (0 : Int)) else false)
set_option maxRecDepth 100000 in
theorem khas_ok (w z e x : Int)  : Ok Tryd.prog 9 [.v (.int .i64 w), .agg [.v (.int .u64 z), .v (.int .u64 e)], .v (.int .u64 x)] (look []) (.v (.bool (khas_s w z e x))) (postOf [] []) := by
  unfold khas_s
  cases h2004 : ((Go.bits .andNot .u64 ((krig_s w z e).2) x) == (0 : Int))
  · have p2004 := ne_of_beq_false h2004
    exact ok_run Tryd.func9 rfl rfl mixed 400 [(0, .nm 701), (1002, .call [] [] (.agg [.v (.int .u64 ((krig_s w z e).1)), .v (.int .u64 ((krig_s w z e).2))])), (2004, .b false)] (all2 (krig_ok w z e ) h2004) (by kernel_rfl)
  · have p2004 := eq_of_beq h2004
    exact ok_run Tryd.func9 rfl rfl mixed 400 [(0, .nm 701), (1002, .call [] [] (.agg [.v (.int .u64 ((krig_s w z e).1)), .v (.int .u64 ((krig_s w z e).2))])), (2004, .b true)] (all2 (krig_ok w z e ) h2004) (by kernel_rfl)

def kmee_s (w a b c e : Int) : Int × Int × Bool := (bif (Go.bits .and .u64 (Go.bits .or .u64 ((krig_s w a b).1) ((krig_s w c e).1)) (Go.bits .or .u64 ((krig_s w a b).2) ((krig_s w c e).2))) != (0 : Int) then ((0 : Int), (0 : Int), false) else (Go.bits .or .u64 ((krig_s w a b).1) ((krig_s w c e).1), Go.bits .or .u64 ((krig_s w a b).2) ((krig_s w c e).2), true))
set_option maxRecDepth 100000 in
theorem kmee_ok (w a b c e : Int)  : Ok Tryd.prog 13 [.v (.int .i64 w), .agg [.v (.int .u64 a), .v (.int .u64 b)], .agg [.v (.int .u64 c), .v (.int .u64 e)]] (look []) (.tup [.agg [.v (.int .u64 ((kmee_s w a b c e).1)), .v (.int .u64 ((kmee_s w a b c e).2.1))], .v (.bool ((kmee_s w a b c e).2.2))]) (postOf [] []) := by
  unfold kmee_s
  cases h3005 : ((Go.bits .and .u64 (Go.bits .or .u64 ((krig_s w a b).1) ((krig_s w c e).1)) (Go.bits .or .u64 ((krig_s w a b).2) ((krig_s w c e).2))) != (0 : Int))
  · have p3005 := bne_eq_false_iff_eq.1 h3005
    exact ok_run Tryd.func13 rfl rfl mixed 400 [(0, .nm 701), (1, .nm 702), (2, .nm 703), (1002, .call [] [] (.agg [.v (.int .u64 ((krig_s w a b).1)), .v (.int .u64 ((krig_s w a b).2))])), (1005, .call [] [] (.agg [.v (.int .u64 ((krig_s w c e).1)), .v (.int .u64 ((krig_s w c e).2))])), (2011, .nm 704), (3005, .b false)] (all3 (krig_ok w a b ) (krig_ok w c e ) h3005) (by kernel_rfl)
  · have p3005 := bne_iff_ne.1 h3005
    exact ok_run Tryd.func13 rfl rfl mixed 400 [(0, .nm 701), (1, .nm 702), (2, .nm 703), (1002, .call [] [] (.agg [.v (.int .u64 ((krig_s w a b).1)), .v (.int .u64 ((krig_s w a b).2))])), (1005, .call [] [] (.agg [.v (.int .u64 ((krig_s w c e).1)), .v (.int .u64 ((krig_s w c e).2))])), (2011, .nm 704), (3005, .b true)] (all3 (krig_ok w a b ) (krig_ok w c e ) h3005) (by kernel_rfl)

def kjoi_s (w a b c e : Int) : Int × Int := (Go.bits .and .u64 ((krig_s w a b).1) ((krig_s w c e).1), Go.bits .and .u64 ((krig_s w a b).2) ((krig_s w c e).2))
set_option maxRecDepth 100000 in
theorem kjoi_ok (w a b c e : Int)  : Ok Tryd.prog 17 [.v (.int .i64 w), .agg [.v (.int .u64 a), .v (.int .u64 b)], .agg [.v (.int .u64 c), .v (.int .u64 e)]] (look []) (.agg [.v (.int .u64 ((kjoi_s w a b c e).1)), .v (.int .u64 ((kjoi_s w a b c e).2))]) (postOf [] []) := by
  unfold kjoi_s
  exact ok_run Tryd.func17 rfl rfl mixed 400 [(0, .nm 701), (1, .nm 702), (2, .nm 703), (1002, .call [] [] (.agg [.v (.int .u64 ((krig_s w a b).1)), .v (.int .u64 ((krig_s w a b).2))])), (1005, .call [] [] (.agg [.v (.int .u64 ((krig_s w c e).1)), .v (.int .u64 ((krig_s w c e).2))]))] (all2 (krig_ok w a b ) (krig_ok w c e )) (by kernel_rfl)

def kall_s (z e w : Int) : Int := (Go.bits .or .u64 z e)
set_option maxRecDepth 100000 in
theorem kall_ok (z e w : Int)  : Ok Tryd.prog 39 [.agg [.v (.int .u64 z), .v (.int .u64 e), .v (.int .i64 w)]] (look []) (.v (.int .u64 (kall_s z e w))) (postOf [] []) := by
  unfold kall_s
  exact ok_run Tryd.func39 rfl rfl mixed 400 [(0, .nm 701)] (all0) (by kernel_rfl)

def klow_s (z e w : Int) : Int := (tz_s (Go.bits .xor .u64 IntKind.u64.max (kall_s z e w)))
set_option maxRecDepth 100000 in
theorem klow_ok (z e w : Int)  : Ok Tryd.prog 55 [.agg [.v (.int .u64 z), .v (.int .u64 e), .v (.int .i64 w)]] (look []) (.v (.int .i64 (klow_s z e w))) (postOf [] []) := by
  unfold klow_s
  exact ok_run Tryd.func55 rfl rfl mixed 400 [(0, .nm 701), (1001, .call [] [] (.v (.int .u64 (kall_s z e w)))), (1003, .call [] [] (.v (.int .i64 (tz_s (Go.bits .xor .u64 IntKind.u64.max (kall_s z e w))))))] (all2 (kall_ok z e w ) (tz_ok (Go.bits .xor .u64 IntKind.u64.max (kall_s z e w)) )) (by kernel_rfl)

theorem klow_rng (z e w : Int) : 0 ≤ klow_s z e w ∧ klow_s z e w ≤ 64 := tz_rng _

def kin_s (z e w s : Int) : Int := (Go.bits .andNot .u64 (mask_s w) ((mask_s w).fdiv (2 ^ min ((s).toNat) 64)))
set_option maxRecDepth 100000 in
theorem kin_ok (z e w s : Int) (hs : 0 ≤ s) : Ok Tryd.prog 63 [.agg [.v (.int .u64 z), .v (.int .u64 e), .v (.int .i64 w)], .v (.int .u64 s)] (look []) (.v (.int .u64 (kin_s z e w s))) (postOf [] []) := by
  unfold kin_s
  exact ok_run Tryd.func63 rfl rfl mixed 400 [(0, .nm 701), (1002, .call [] [] (.v (.int .u64 (mask_s w)))), (1005, .call [] [] (.v (.int .u64 (mask_s w)))), (1007, .nat 0)] (all3 (mask_ok w ) (mask_ok w ) (show (0 : Int) ≤ s by omega)) (by kernel_rfl)

def kup_s (z e w s : Int) : Int × Int := ((krig_s w (Go.bits .or .u64 (IntKind.u64.wrap (z * 2 ^ min ((s).toNat) 64)) (IntKind.u64.wrap ((IntKind.u64.wrap (1 * 2 ^ min ((s).toNat) 64)) - 1))) (IntKind.u64.wrap (e * 2 ^ min ((s).toNat) 64))).1, (krig_s w (Go.bits .or .u64 (IntKind.u64.wrap (z * 2 ^ min ((s).toNat) 64)) (IntKind.u64.wrap ((IntKind.u64.wrap (1 * 2 ^ min ((s).toNat) 64)) - 1))) (IntKind.u64.wrap (e * 2 ^ min ((s).toNat) 64))).2)
set_option maxRecDepth 100000 in
theorem kup_ok (z e w s : Int) (hs : 0 ≤ s) : Ok Tryd.prog 58 [.agg [.v (.int .u64 z), .v (.int .u64 e), .v (.int .i64 w)], .v (.int .u64 s)] (look []) (.agg [.v (.int .u64 ((kup_s z e w s).1)), .v (.int .u64 ((kup_s z e w s).2))]) (postOf [] []) := by
  unfold kup_s
  exact ok_run Tryd.func58 rfl rfl mixed 400 [(0, .nm 701), (1, .nm 702), (1006, .nat 0), (1008, .nat 0), (1015, .nat 0), (1017, .call [] [] (.agg [.v (.int .u64 ((krig_s w (Go.bits .or .u64 (IntKind.u64.wrap (z * 2 ^ min ((s).toNat) 64)) (IntKind.u64.wrap ((IntKind.u64.wrap (1 * 2 ^ min ((s).toNat) 64)) - 1))) (IntKind.u64.wrap (e * 2 ^ min ((s).toNat) 64))).1)), .v (.int .u64 ((krig_s w (Go.bits .or .u64 (IntKind.u64.wrap (z * 2 ^ min ((s).toNat) 64)) (IntKind.u64.wrap ((IntKind.u64.wrap (1 * 2 ^ min ((s).toNat) 64)) - 1))) (IntKind.u64.wrap (e * 2 ^ min ((s).toNat) 64))).2))]))] (all4 (show (0 : Int) ≤ s by omega) (show (0 : Int) ≤ s by omega) (show (0 : Int) ≤ s by omega) (krig_ok w (Go.bits .or .u64 (IntKind.u64.wrap (z * 2 ^ min ((s).toNat) 64)) (IntKind.u64.wrap ((IntKind.u64.wrap (1 * 2 ^ min ((s).toNat) 64)) - 1))) (IntKind.u64.wrap (e * 2 ^ min ((s).toNat) 64)) )) (by kernel_rfl)

def kdow_s (z e w s : Int) : Int × Int := (Go.bits .or .u64 (z.fdiv (2 ^ min ((s).toNat) 64)) (kin_s z e w s), e.fdiv (2 ^ min ((s).toNat) 64))
set_option maxRecDepth 100000 in
theorem kdow_ok (z e w s : Int) (hs : 0 ≤ s) : Ok Tryd.prog 56 [.agg [.v (.int .u64 z), .v (.int .u64 e), .v (.int .i64 w)], .v (.int .u64 s)] (look []) (.agg [.v (.int .u64 ((kdow_s z e w s).1)), .v (.int .u64 ((kdow_s z e w s).2))]) (postOf [] []) := by
  unfold kdow_s
  exact ok_run Tryd.func56 rfl rfl mixed 400 [(0, .nm 701), (1, .nm 702), (1004, .nat 0), (1007, .call [] [] (.v (.int .u64 (kin_s z e w s)))), (1013, .nat 0)] (all3 (show (0 : Int) ≤ s by omega) (kin_ok z e w s (by omega)) (show (0 : Int) ≤ s by omega)) (by kernel_rfl)

def ksig_s (z e w s : Int) : Int × Int := (bif (Go.bits .and .u64 z (IntKind.u64.wrap (1 * 2 ^ min ((w - 1).toNat) 64))) != (0 : Int) then (Go.bits .or .u64 (z.fdiv (2 ^ min ((s).toNat) 64)) (kin_s z e w s), e.fdiv (2 ^ min ((s).toNat) 64)) else (bif (Go.bits .and .u64 e (IntKind.u64.wrap (1 * 2 ^ min ((w - 1).toNat) 64))) != (0 : Int) then (z.fdiv (2 ^ min ((s).toNat) 64), Go.bits .or .u64 (e.fdiv (2 ^ min ((s).toNat) 64)) (kin_s z e w s)) else (z.fdiv (2 ^ min ((s).toNat) 64), e.fdiv (2 ^ min ((s).toNat) 64))))
set_option maxRecDepth 100000 in
theorem ksig_ok (z e w s : Int) (hs : 0 ≤ s) (hw : 1 ≤ w ∧ w ≤ 64) : Ok Tryd.prog 57 [.agg [.v (.int .u64 z), .v (.int .u64 e), .v (.int .i64 w)], .v (.int .u64 s)] (look []) (.agg [.v (.int .u64 ((ksig_s z e w s).1)), .v (.int .u64 ((ksig_s z e w s).2))]) (postOf [] []) := by
  unfold ksig_s
  cases h3005 : ((Go.bits .and .u64 z (IntKind.u64.wrap (1 * 2 ^ min ((w - 1).toNat) 64))) != (0 : Int))
  · have p3005 := bne_eq_false_iff_eq.1 h3005
    cases h5005 : ((Go.bits .and .u64 e (IntKind.u64.wrap (1 * 2 ^ min ((w - 1).toNat) 64))) != (0 : Int))
    · have p5005 := bne_eq_false_iff_eq.1 h5005
      exact ok_run Tryd.func57 rfl rfl mixed 400 [(0, .nm 701), (1, .nm 702), (1002, .as_ (.v (.int .i64 (w - 1)))), (1003, .nat 0), (2004, .nat 0), (2009, .nat 0), (2011, .nm 703), (3005, .b false), (5005, .b false)] (all6 (wr64 (x := w - 1) (by omega)) (show (0 : Int) ≤ w - 1 by omega) (show (0 : Int) ≤ s by omega) (show (0 : Int) ≤ s by omega) h3005 h5005) (by kernel_rfl)
    · have p5005 := bne_iff_ne.1 h5005
      exact ok_run Tryd.func57 rfl rfl mixed 400 [(0, .nm 701), (1, .nm 702), (1002, .as_ (.v (.int .i64 (w - 1)))), (1003, .nat 0), (2004, .nat 0), (2009, .nat 0), (2011, .nm 703), (3005, .b false), (5005, .b true), (6004, .call [] [] (.v (.int .u64 (kin_s z e w s))))] (all7 (wr64 (x := w - 1) (by omega)) (show (0 : Int) ≤ w - 1 by omega) (show (0 : Int) ≤ s by omega) (show (0 : Int) ≤ s by omega) h3005 h5005 (kin_ok z e w s (by omega))) (by kernel_rfl)
  · have p3005 := bne_iff_ne.1 h3005
    exact ok_run Tryd.func57 rfl rfl mixed 400 [(0, .nm 701), (1, .nm 702), (1002, .as_ (.v (.int .i64 (w - 1)))), (1003, .nat 0), (2004, .nat 0), (2009, .nat 0), (2011, .nm 703), (3005, .b true), (4004, .call [] [] (.v (.int .u64 (kin_s z e w s))))] (all6 (wr64 (x := w - 1) (by omega)) (show (0 : Int) ≤ w - 1 by omega) (show (0 : Int) ≤ s by omega) (show (0 : Int) ≤ s by omega) h3005 (kin_ok z e w s (by omega))) (by kernel_rfl)

def ksum_s (a b w c e v : Int) (op : Int) : Int × Int := (bif (min (min (klow_s a b w) (klow_s c e v)) w) == (0 : Int) then ((0 : Int), (0 : Int)) else ((kof_s (min (min (klow_s a b w) (klow_s c e v)) w) (apply1_s op (min (min (klow_s a b w) (klow_s c e v)) w) b e)).1, (kof_s (min (min (klow_s a b w) (klow_s c e v)) w) (apply1_s op (min (min (klow_s a b w) (klow_s c e v)) w) b e)).2))
set_option maxRecDepth 100000 in
theorem ksum_ok (a b w c e v : Int) (op : Int) (hw : 1 ≤ w ∧ w ≤ 64) : Ok Tryd.prog 40 [.agg [.v (.int .u64 a), .v (.int .u64 b), .v (.int .i64 w), .v (.int .u64 c), .v (.int .u64 e), .v (.int .i64 v)], .v (.int .i64 op)] (look []) (.agg [.v (.int .u64 ((ksum_s a b w c e v op).1)), .v (.int .u64 ((ksum_s a b w c e v op).2))]) (postOf [] []) := by
  unfold ksum_s
  cases h2001 : ((min (min (klow_s a b w) (klow_s c e v)) w) == (0 : Int))
  · have p2001 := ne_of_beq_false h2001
    exact ok_run Tryd.func40 rfl rfl mixed 400 [(0, .nm 701), (1, .nm 702), (1002, .call [] [] (.v (.int .i64 (klow_s a b w)))), (1005, .call [] [] (.v (.int .i64 (klow_s c e v)))), (1009, .as_ (.v (.int .i64 (min (min (klow_s a b w) (klow_s c e v)) w)))), (2001, .b false), (4011, .call [] [] (.v (.int .u64 (apply1_s op (min (min (klow_s a b w) (klow_s c e v)) w) b e)))), (4012, .call [] [] (.agg [.v (.int .u64 ((kof_s (min (min (klow_s a b w) (klow_s c e v)) w) (apply1_s op (min (min (klow_s a b w) (klow_s c e v)) w) b e)).1)), .v (.int .u64 ((kof_s (min (min (klow_s a b w) (klow_s c e v)) w) (apply1_s op (min (min (klow_s a b w) (klow_s c e v)) w) b e)).2))]))] (all6 (klow_ok a b w ) (klow_ok c e v ) (minE3 .i64 (klow_s a b w) (klow_s c e v) w) h2001 (apply1_ok op (min (min (klow_s a b w) (klow_s c e v)) w) b e ) (kof_ok (min (min (klow_s a b w) (klow_s c e v)) w) (apply1_s op (min (min (klow_s a b w) (klow_s c e v)) w) b e) )) (by kernel_rfl)
  · have p2001 := eq_of_beq h2001
    exact ok_run Tryd.func40 rfl rfl mixed 400 [(0, .nm 701), (1, .nm 702), (1002, .call [] [] (.v (.int .i64 (klow_s a b w)))), (1005, .call [] [] (.v (.int .i64 (klow_s c e v)))), (1009, .as_ (.v (.int .i64 (min (min (klow_s a b w) (klow_s c e v)) w)))), (2001, .b true)] (all4 (klow_ok a b w ) (klow_ok c e v ) (minE3 .i64 (klow_s a b w) (klow_s c e v) w) h2001) (by kernel_rfl)
end Go.Proofs.YtjlfgbaphnpbfaaDoor.Sx.M5
