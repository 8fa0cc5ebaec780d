/- What the functions of a chapter compute, as contracts; written by a program of this session. -/
import Derived.Test.YtahobmjchppciaaDoorK2
import Derived.Shelf.Spec.TrailingZeros
import Derived.Test.YtahobmjchppciaaDoorKy
open Go Go.Proofs Go.RowKit
namespace Go.Proofs.YtahobmjchppciaaDoor.Sx.M5
set_option linter.unusedVariables false
set_option linter.unusedSimpArgs false
/-- The place of a word in the table. -/
def tzi (x : Int) : Int := (IntKind.u64.wrap ((Go.bits .and .u64 x (IntKind.u64.wrap (0 - x))) * 285870213051353865)).fdiv (2 ^ 58)
theorem tz_idx (x : Int) : 0 ≤ tzi x ∧ tzi x < 64 := by
  have h := wrap_u64_rng ((Go.bits .and .u64 x (IntKind.u64.wrap (0 - x))) * 285870213051353865)
  unfold tzi
  rw [Int.fdiv_eq_ediv_of_nonneg _ (by decide)]
  generalize IntKind.u64.wrap _ = y at *
  have e : y / 2 ^ 58 = y / 288230376151711744 := rfl
  omega
theorem tzi_eq (x : Int) : AV.v (.int .u64 ((IntKind.u64.wrap ((Go.bits .and .u64 x (IntKind.u64.wrap (0 - x))) * 285870213051353865)).fdiv (2 ^ 58))) = AV.v (.int .u64 (tzi x)) := rfl
theorem tab_el {i : Int} (h : 0 ≤ i ∧ i < 64) : ∀ D, GG D → ∃ cells te fr, D 0 = some (.cells cells te fr) ∧ ∀ (j : Nat) (x : Value), [Value.int .u8 ((Lib.deBruijn64tab.getD i.toNat 0 : Nat) : Int)][j]? = some x → cells[i.toNat + j]? = some x := by
  rintro D ⟨cs, t, f, h1, h2⟩
  refine ⟨cs, t, f, h1, fun j x hx => ?_⟩
  cases j with
  | zero =>
    simp only [List.getElem?_cons_zero, Option.some.injEq] at hx
    rw [← hx, Nat.add_zero]
    exact h2 _ (by omega)
  | succ j => simp at hx

def tz_s (x : Int) : Int := (bif x == (0 : Int) then (64 : Int) else (IntKind.i64.wrap (((Lib.deBruijn64tab.getD ((tzi x).toNat) 0 : Nat) : Int))))
set_option maxRecDepth 100000 in
theorem tz_ok (x : Int)  : Ok Tryd.prog 102 [.v (.int .u64 x)] (look []) (.v (.int .i64 (tz_s x))) (postOf [] []) := by
  unfold tz_s
  obtain ⟨i, hi⟩ : ∃ i, tzi x = i := ⟨_, rfl⟩
  rw [hi]
  cases h1001 : (x == (0 : Int))
  · have p1001 := ne_of_beq_false h1001
    exact ok_run Tryd.func102 rfl rfl mixed 400 [(1001, .b false), (3005, .as_ (.v (.int .u64 i))), (3006, .el [Value.int .u8 ((Lib.deBruijn64tab.getD (i.toNat) 0 : Nat) : Int)])] (all4 h1001 (hi ▸ tzi_eq x) (hi ▸ tz_idx x) (tab_el (hi ▸ tz_idx x))) (by kernel_rfl)
  · have p1001 := eq_of_beq h1001
    exact ok_run Tryd.func102 rfl rfl mixed 400 [(1001, .b true)] (all1 h1001) (by kernel_rfl)
end Go.Proofs.YtahobmjchppciaaDoor.Sx.M5
/- What the functions of a chapter compute, as contracts; written by a program of this session. -/
open Go Go.Proofs Go.RowKit
namespace Go.Proofs.YtahobmjchppciaaDoor.Sx.M5
set_option linter.unusedVariables false
set_option linter.unusedSimpArgs false
theorem minE3 (k : IntKind) (x y z : Int) : AV.v (.int k (if z < (if y < x then y else x) then z else (if y < x then y else x))) = AV.v (.int k (min (min x y) z)) := by
  congr 2
  split <;> split <;> omega

theorem tab_all : Lib.deBruijn64tab.all (Nat.blt · 64) = true := by rfl
theorem tab_rng (j : Nat) : Lib.deBruijn64tab.getD j 0 < 64 := by
  rw [List.getD_eq_getElem?_getD]
  cases h : Lib.deBruijn64tab[j]? with
  | none => decide
  | some y =>
    have := List.all_eq_true.1 tab_all y (List.mem_of_getElem? h)
    exact Nat.blt_eq ▸ this
theorem wrap_b (n : Nat) (h : n < 64) : 0 ≤ IntKind.i64.wrap (n : Int) ∧ IntKind.i64.wrap (n : Int) ≤ 64 := by
  rw [IntKind.wrap_i64]; omega
theorem bif_b (b : Bool) (W : Int) (h : 0 ≤ W ∧ W ≤ 64) : 0 ≤ (bif b then 64 else W) ∧ (bif b then 64 else W) ≤ 64 := by
  cases b with
  | true => exact ⟨(by decide : (0:Int) ≤ 64), (by decide : (64:Int) ≤ 64)⟩
  | false => exact h
theorem tz_def (x : Int) : tz_s x = (bif x == (0 : Int) then (64 : Int) else (IntKind.i64.wrap (((Lib.deBruijn64tab.getD ((tzi x).toNat) 0 : Nat) : Int)))) := rfl
theorem tz_rng (x : Int) : 0 ≤ tz_s x ∧ tz_s x ≤ 64 := by
  rw [tz_def]
  exact bif_b _ _ (wrap_b _ (tab_rng _))

def krig_s (w z e : Int) : Int × Int := (bif (Go.bits .and .u64 (cut_s w z) (cut_s w e)) != (0 : Int) then ((0 : Int), (0 : Int)) else ((cut_s w z), (cut_s w e)))
set_option maxRecDepth 100000 in
theorem krig_ok (w z e : Int)  : Ok Tryd.prog 25 [.v (.int .i64 w), .agg [.v (.int .u64 z), .v (.int .u64 e)]] (look []) (.agg [.v (.int .u64 ((krig_s w z e).1)), .v (.int .u64 ((krig_s w z e).2))]) (postOf [] []) := by
  unfold krig_s
  cases h2005 : ((Go.bits .and .u64 (cut_s w z) (cut_s w e)) != (0 : Int))
  · have p2005 := bne_eq_false_iff_eq.1 h2005
    exact ok_run Tryd.func25 rfl rfl mixed 400 [(0, .nm 701), (1, .nm 702), (1003, .call [] [] (.v (.int .u64 (cut_s w z)))), (1007, .call [] [] (.v (.int .u64 (cut_s w e)))), (2005, .b false)] (all3 (cut_ok w z ) (cut_ok w e ) h2005) (by kernel_rfl)
  · have p2005 := bne_iff_ne.1 h2005
    exact ok_run Tryd.func25 rfl rfl mixed 400 [(0, .nm 701), (1, .nm 702), (1003, .call [] [] (.v (.int .u64 (cut_s w z)))), (1007, .call [] [] (.v (.int .u64 (cut_s w e)))), (2005, .b true)] (all3 (cut_ok w z ) (cut_ok w e ) h2005) (by kernel_rfl)

def kof_s (w x : Int) : Int × Int := (Go.bits .xor .u64 (cut_s w x) (mask_s w), (cut_s w x))
set_option maxRecDepth 100000 in
theorem kof_ok (w x : Int)  : Ok Tryd.prog 29 [.v (.int .i64 w), .v (.int .u64 x)] (look []) (.agg [.v (.int .u64 ((kof_s w x).1)), .v (.int .u64 ((kof_s w x).2))]) (postOf [] []) := by
  unfold kof_s
  exact ok_run Tryd.func29 rfl rfl mixed 400 [(0, .nm 701), (1002, .call [] [] (.v (.int .u64 (cut_s w x)))), (2002, .call [] [] (.v (.int .u64 (mask_s w))))] (all2 (cut_ok w x ) (mask_ok w )) (by kernel_rfl)

def knum_s (w z e : Int) : Int × Bool := (bif !(((krig_s w z e).1) == ((kof_s w ((krig_s w z e).2)).1) && (((krig_s w z e).2) == ((kof_s w ((krig_s w z e).2)).2))) then ((0 : Int), false) else ((krig_s w z e).2, true))
set_option maxRecDepth 100000 in
theorem knum_ok (w z e : Int)  : Ok Tryd.prog 65 [.v (.int .i64 w), .agg [.v (.int .u64 z), .v (.int .u64 e)]] (look []) (.tup [.v (.int .u64 ((knum_s w z e).1)), .v (.bool ((knum_s w z e).2))]) (postOf [] []) := by
  unfold knum_s
  cases h2005 : (!(((krig_s w z e).1) == ((kof_s w ((krig_s w z e).2)).1) && (((krig_s w z e).2) == ((kof_s w ((krig_s w z e).2)).2))))
  · have p2005 := notF h2005
    exact ok_run Tryd.func65 rfl rfl mixed 400 [(0, .nm 701), (1002, .call [] [] (.agg [.v (.int .u64 ((krig_s w z e).1)), .v (.int .u64 ((krig_s w z e).2))])), (2004, .call [] [] (.agg [.v (.int .u64 ((kof_s w ((krig_s w z e).2)).1)), .v (.int .u64 ((kof_s w ((krig_s w z e).2)).2))])), (2005, .b false)] (all3 (krig_ok w z e ) (kof_ok w ((krig_s w z e).2) ) h2005) (by kernel_rfl)
  · have p2005 := notT h2005
    exact ok_run Tryd.func65 rfl rfl mixed 400 [(0, .nm 701), (1002, .call [] [] (.agg [.v (.int .u64 ((krig_s w z e).1)), .v (.int .u64 ((krig_s w z e).2))])), (2004, .call [] [] (.agg [.v (.int .u64 ((kof_s w ((krig_s w z e).2)).1)), .v (.int .u64 ((kof_s w ((krig_s w z e).2)).2))])), (2005, .b true)] (all3 (krig_ok w z e ) (kof_ok w ((krig_s w z e).2) ) h2005) (by kernel_rfl)

def kmee_s (w a b c e : Int) : Int × Int × Bool := (bif (Go.bits .and .u64 (Go.bits .or .u64 ((krig_s w a b).1) ((krig_s w c e).1)) (Go.bits .or .u64 ((krig_s w a b).2) ((krig_s w c e).2))) != (0 : Int) then ((0 : Int), (0 : Int), false) else (Go.bits .or .u64 ((krig_s w a b).1) ((krig_s w c e).1), Go.bits .or .u64 ((krig_s w a b).2) ((krig_s w c e).2), true))
set_option maxRecDepth 100000 in
theorem kmee_ok (w a b c e : Int)  : Ok Tryd.prog 30 [.v (.int .i64 w), .agg [.v (.int .u64 a), .v (.int .u64 b)], .agg [.v (.int .u64 c), .v (.int .u64 e)]] (look []) (.tup [.agg [.v (.int .u64 ((kmee_s w a b c e).1)), .v (.int .u64 ((kmee_s w a b c e).2.1))], .v (.bool ((kmee_s w a b c e).2.2))]) (postOf [] []) := by
  unfold kmee_s
  cases h3005 : ((Go.bits .and .u64 (Go.bits .or .u64 ((krig_s w a b).1) ((krig_s w c e).1)) (Go.bits .or .u64 ((krig_s w a b).2) ((krig_s w c e).2))) != (0 : Int))
  · have p3005 := bne_eq_false_iff_eq.1 h3005
    exact ok_run Tryd.func30 rfl rfl mixed 400 [(0, .nm 701), (1, .nm 702), (2, .nm 703), (1002, .call [] [] (.agg [.v (.int .u64 ((krig_s w a b).1)), .v (.int .u64 ((krig_s w a b).2))])), (1005, .call [] [] (.agg [.v (.int .u64 ((krig_s w c e).1)), .v (.int .u64 ((krig_s w c e).2))])), (2011, .nm 704), (3005, .b false)] (all3 (krig_ok w a b ) (krig_ok w c e ) h3005) (by kernel_rfl)
  · have p3005 := bne_iff_ne.1 h3005
    exact ok_run Tryd.func30 rfl rfl mixed 400 [(0, .nm 701), (1, .nm 702), (2, .nm 703), (1002, .call [] [] (.agg [.v (.int .u64 ((krig_s w a b).1)), .v (.int .u64 ((krig_s w a b).2))])), (1005, .call [] [] (.agg [.v (.int .u64 ((krig_s w c e).1)), .v (.int .u64 ((krig_s w c e).2))])), (2011, .nm 704), (3005, .b true)] (all3 (krig_ok w a b ) (krig_ok w c e ) h3005) (by kernel_rfl)

def kjoi_s (w a b c e : Int) : Int × Int := (Go.bits .and .u64 ((krig_s w a b).1) ((krig_s w c e).1), Go.bits .and .u64 ((krig_s w a b).2) ((krig_s w c e).2))
set_option maxRecDepth 100000 in
theorem kjoi_ok (w a b c e : Int)  : Ok Tryd.prog 45 [.v (.int .i64 w), .agg [.v (.int .u64 a), .v (.int .u64 b)], .agg [.v (.int .u64 c), .v (.int .u64 e)]] (look []) (.agg [.v (.int .u64 ((kjoi_s w a b c e).1)), .v (.int .u64 ((kjoi_s w a b c e).2))]) (postOf [] []) := by
  unfold kjoi_s
  exact ok_run Tryd.func45 rfl rfl mixed 400 [(0, .nm 701), (1, .nm 702), (2, .nm 703), (1002, .call [] [] (.agg [.v (.int .u64 ((krig_s w a b).1)), .v (.int .u64 ((krig_s w a b).2))])), (1005, .call [] [] (.agg [.v (.int .u64 ((krig_s w c e).1)), .v (.int .u64 ((krig_s w c e).2))]))] (all2 (krig_ok w a b ) (krig_ok w c e )) (by kernel_rfl)

def kall_s (z e w : Int) : Int := (Go.bits .or .u64 z e)
set_option maxRecDepth 100000 in
theorem kall_ok (z e w : Int)  : Ok Tryd.prog 90 [.agg [.v (.int .u64 z), .v (.int .u64 e), .v (.int .i64 w)]] (look []) (.v (.int .u64 (kall_s z e w))) (postOf [] []) := by
  unfold kall_s
  exact ok_run Tryd.func90 rfl rfl mixed 400 [(0, .nm 701)] (all0) (by kernel_rfl)

def klow_s (z e w : Int) : Int := (tz_s (Go.bits .xor .u64 IntKind.u64.max (kall_s z e w)))
set_option maxRecDepth 100000 in
theorem klow_ok (z e w : Int)  : Ok Tryd.prog 98 [.agg [.v (.int .u64 z), .v (.int .u64 e), .v (.int .i64 w)]] (look []) (.v (.int .i64 (klow_s z e w))) (postOf [] []) := by
  unfold klow_s
  exact ok_run Tryd.func98 rfl rfl mixed 400 [(0, .nm 701), (1001, .call [] [] (.v (.int .u64 (kall_s z e w)))), (1003, .call [] [] (.v (.int .i64 (tz_s (Go.bits .xor .u64 IntKind.u64.max (kall_s z e w))))))] (all2 (kall_ok z e w ) (tz_ok (Go.bits .xor .u64 IntKind.u64.max (kall_s z e w)) )) (by kernel_rfl)

theorem klow_rng (z e w : Int) : 0 ≤ klow_s z e w ∧ klow_s z e w ≤ 64 := tz_rng _

def kin_s (z e w s : Int) : Int := (Go.bits .andNot .u64 (mask_s w) ((mask_s w).fdiv (2 ^ min ((s).toNat) 64)))
set_option maxRecDepth 100000 in
theorem kin_ok (z e w s : Int) (hs : 0 ≤ s) : Ok Tryd.prog 103 [.agg [.v (.int .u64 z), .v (.int .u64 e), .v (.int .i64 w)], .v (.int .u64 s)] (look []) (.v (.int .u64 (kin_s z e w s))) (postOf [] []) := by
  unfold kin_s
  exact ok_run Tryd.func103 rfl rfl mixed 400 [(0, .nm 701), (1002, .call [] [] (.v (.int .u64 (mask_s w)))), (1005, .call [] [] (.v (.int .u64 (mask_s w)))), (1007, .nat 0)] (all3 (mask_ok w ) (mask_ok w ) (show (0 : Int) ≤ s by omega)) (by kernel_rfl)

def kup_s (z e w s : Int) : Int × Int := ((krig_s w (Go.bits .or .u64 (IntKind.u64.wrap (z * 2 ^ min ((s).toNat) 64)) (IntKind.u64.wrap ((IntKind.u64.wrap (1 * 2 ^ min ((s).toNat) 64)) - 1))) (IntKind.u64.wrap (e * 2 ^ min ((s).toNat) 64))).1, (krig_s w (Go.bits .or .u64 (IntKind.u64.wrap (z * 2 ^ min ((s).toNat) 64)) (IntKind.u64.wrap ((IntKind.u64.wrap (1 * 2 ^ min ((s).toNat) 64)) - 1))) (IntKind.u64.wrap (e * 2 ^ min ((s).toNat) 64))).2)
set_option maxRecDepth 100000 in
theorem kup_ok (z e w s : Int) (hs : 0 ≤ s) : Ok Tryd.prog 101 [.agg [.v (.int .u64 z), .v (.int .u64 e), .v (.int .i64 w)], .v (.int .u64 s)] (look []) (.agg [.v (.int .u64 ((kup_s z e w s).1)), .v (.int .u64 ((kup_s z e w s).2))]) (postOf [] []) := by
  unfold kup_s
  exact ok_run Tryd.func101 rfl rfl mixed 400 [(0, .nm 701), (1, .nm 702), (1006, .nat 0), (1008, .nat 0), (1015, .nat 0), (1017, .call [] [] (.agg [.v (.int .u64 ((krig_s w (Go.bits .or .u64 (IntKind.u64.wrap (z * 2 ^ min ((s).toNat) 64)) (IntKind.u64.wrap ((IntKind.u64.wrap (1 * 2 ^ min ((s).toNat) 64)) - 1))) (IntKind.u64.wrap (e * 2 ^ min ((s).toNat) 64))).1)), .v (.int .u64 ((krig_s w (Go.bits .or .u64 (IntKind.u64.wrap (z * 2 ^ min ((s).toNat) 64)) (IntKind.u64.wrap ((IntKind.u64.wrap (1 * 2 ^ min ((s).toNat) 64)) - 1))) (IntKind.u64.wrap (e * 2 ^ min ((s).toNat) 64))).2))]))] (all4 (show (0 : Int) ≤ s by omega) (show (0 : Int) ≤ s by omega) (show (0 : Int) ≤ s by omega) (krig_ok w (Go.bits .or .u64 (IntKind.u64.wrap (z * 2 ^ min ((s).toNat) 64)) (IntKind.u64.wrap ((IntKind.u64.wrap (1 * 2 ^ min ((s).toNat) 64)) - 1))) (IntKind.u64.wrap (e * 2 ^ min ((s).toNat) 64)) )) (by kernel_rfl)

def kdow_s (z e w s : Int) : Int × Int := (Go.bits .or .u64 (z.fdiv (2 ^ min ((s).toNat) 64)) (kin_s z e w s), e.fdiv (2 ^ min ((s).toNat) 64))
set_option maxRecDepth 100000 in
theorem kdow_ok (z e w s : Int) (hs : 0 ≤ s) : Ok Tryd.prog 99 [.agg [.v (.int .u64 z), .v (.int .u64 e), .v (.int .i64 w)], .v (.int .u64 s)] (look []) (.agg [.v (.int .u64 ((kdow_s z e w s).1)), .v (.int .u64 ((kdow_s z e w s).2))]) (postOf [] []) := by
  unfold kdow_s
  exact ok_run Tryd.func99 rfl rfl mixed 400 [(0, .nm 701), (1, .nm 702), (1004, .nat 0), (1007, .call [] [] (.v (.int .u64 (kin_s z e w s)))), (1013, .nat 0)] (all3 (show (0 : Int) ≤ s by omega) (kin_ok z e w s (by omega)) (show (0 : Int) ≤ s by omega)) (by kernel_rfl)

def ksig_s (z e w s : Int) : Int × Int := (bif (Go.bits .and .u64 z (IntKind.u64.wrap (1 * 2 ^ min ((w - 1).toNat) 64))) != (0 : Int) then (Go.bits .or .u64 (z.fdiv (2 ^ min ((s).toNat) 64)) (kin_s z e w s), e.fdiv (2 ^ min ((s).toNat) 64)) else (bif (Go.bits .and .u64 e (IntKind.u64.wrap (1 * 2 ^ min ((w - 1).toNat) 64))) != (0 : Int) then (z.fdiv (2 ^ min ((s).toNat) 64), Go.bits .or .u64 (e.fdiv (2 ^ min ((s).toNat) 64)) (kin_s z e w s)) else (z.fdiv (2 ^ min ((s).toNat) 64), e.fdiv (2 ^ min ((s).toNat) 64))))
set_option maxRecDepth 100000 in
theorem ksig_ok (z e w s : Int) (hs : 0 ≤ s) (hw : 1 ≤ w ∧ w ≤ 64) : Ok Tryd.prog 100 [.agg [.v (.int .u64 z), .v (.int .u64 e), .v (.int .i64 w)], .v (.int .u64 s)] (look []) (.agg [.v (.int .u64 ((ksig_s z e w s).1)), .v (.int .u64 ((ksig_s z e w s).2))]) (postOf [] []) := by
  unfold ksig_s
  cases h3005 : ((Go.bits .and .u64 z (IntKind.u64.wrap (1 * 2 ^ min ((w - 1).toNat) 64))) != (0 : Int))
  · have p3005 := bne_eq_false_iff_eq.1 h3005
    cases h5005 : ((Go.bits .and .u64 e (IntKind.u64.wrap (1 * 2 ^ min ((w - 1).toNat) 64))) != (0 : Int))
    · have p5005 := bne_eq_false_iff_eq.1 h5005
      exact ok_run Tryd.func100 rfl rfl mixed 400 [(0, .nm 701), (1, .nm 702), (1002, .as_ (.v (.int .i64 (w - 1)))), (1003, .nat 0), (2004, .nat 0), (2009, .nat 0), (2011, .nm 703), (3005, .b false), (5005, .b false)] (all6 (wr64 (x := w - 1) (by omega)) (show (0 : Int) ≤ w - 1 by omega) (show (0 : Int) ≤ s by omega) (show (0 : Int) ≤ s by omega) h3005 h5005) (by kernel_rfl)
    · have p5005 := bne_iff_ne.1 h5005
      exact ok_run Tryd.func100 rfl rfl mixed 400 [(0, .nm 701), (1, .nm 702), (1002, .as_ (.v (.int .i64 (w - 1)))), (1003, .nat 0), (2004, .nat 0), (2009, .nat 0), (2011, .nm 703), (3005, .b false), (5005, .b true), (6004, .call [] [] (.v (.int .u64 (kin_s z e w s))))] (all7 (wr64 (x := w - 1) (by omega)) (show (0 : Int) ≤ w - 1 by omega) (show (0 : Int) ≤ s by omega) (show (0 : Int) ≤ s by omega) h3005 h5005 (kin_ok z e w s (by omega))) (by kernel_rfl)
  · have p3005 := bne_iff_ne.1 h3005
    exact ok_run Tryd.func100 rfl rfl mixed 400 [(0, .nm 701), (1, .nm 702), (1002, .as_ (.v (.int .i64 (w - 1)))), (1003, .nat 0), (2004, .nat 0), (2009, .nat 0), (2011, .nm 703), (3005, .b true), (4004, .call [] [] (.v (.int .u64 (kin_s z e w s))))] (all6 (wr64 (x := w - 1) (by omega)) (show (0 : Int) ≤ w - 1 by omega) (show (0 : Int) ≤ s by omega) (show (0 : Int) ≤ s by omega) h3005 (kin_ok z e w s (by omega))) (by kernel_rfl)

def ksum_s (a b w c e v : Int) (op : Int) : Int × Int := (bif (min (min (klow_s a b w) (klow_s c e v)) w) == (0 : Int) then ((0 : Int), (0 : Int)) else ((kof_s (min (min (klow_s a b w) (klow_s c e v)) w) (apply1_s op (min (min (klow_s a b w) (klow_s c e v)) w) b e)).1, (kof_s (min (min (klow_s a b w) (klow_s c e v)) w) (apply1_s op (min (min (klow_s a b w) (klow_s c e v)) w) b e)).2))
set_option maxRecDepth 100000 in
theorem ksum_ok (a b w c e v : Int) (op : Int) (hw : 1 ≤ w ∧ w ≤ 64) : Ok Tryd.prog 91 [.agg [.v (.int .u64 a), .v (.int .u64 b), .v (.int .i64 w), .v (.int .u64 c), .v (.int .u64 e), .v (.int .i64 v)], .v (.int .i64 op)] (look []) (.agg [.v (.int .u64 ((ksum_s a b w c e v op).1)), .v (.int .u64 ((ksum_s a b w c e v op).2))]) (postOf [] []) := by
  unfold ksum_s
  cases h2001 : ((min (min (klow_s a b w) (klow_s c e v)) w) == (0 : Int))
  · have p2001 := ne_of_beq_false h2001
    exact ok_run Tryd.func91 rfl rfl mixed 400 [(0, .nm 701), (1, .nm 702), (1002, .call [] [] (.v (.int .i64 (klow_s a b w)))), (1005, .call [] [] (.v (.int .i64 (klow_s c e v)))), (1009, .as_ (.v (.int .i64 (min (min (klow_s a b w) (klow_s c e v)) w)))), (2001, .b false), (4011, .call [] [] (.v (.int .u64 (apply1_s op (min (min (klow_s a b w) (klow_s c e v)) w) b e)))), (4012, .call [] [] (.agg [.v (.int .u64 ((kof_s (min (min (klow_s a b w) (klow_s c e v)) w) (apply1_s op (min (min (klow_s a b w) (klow_s c e v)) w) b e)).1)), .v (.int .u64 ((kof_s (min (min (klow_s a b w) (klow_s c e v)) w) (apply1_s op (min (min (klow_s a b w) (klow_s c e v)) w) b e)).2))]))] (all6 (klow_ok a b w ) (klow_ok c e v ) (minE3 .i64 (klow_s a b w) (klow_s c e v) w) h2001 (apply1_ok op (min (min (klow_s a b w) (klow_s c e v)) w) b e ) (kof_ok (min (min (klow_s a b w) (klow_s c e v)) w) (apply1_s op (min (min (klow_s a b w) (klow_s c e v)) w) b e) )) (by kernel_rfl)
  · have p2001 := eq_of_beq h2001
    exact ok_run Tryd.func91 rfl rfl mixed 400 [(0, .nm 701), (1, .nm 702), (1002, .call [] [] (.v (.int .i64 (klow_s a b w)))), (1005, .call [] [] (.v (.int .i64 (klow_s c e v)))), (1009, .as_ (.v (.int .i64 (min (min (klow_s a b w) (klow_s c e v)) w)))), (2001, .b true)] (all4 (klow_ok a b w ) (klow_ok c e v ) (minE3 .i64 (klow_s a b w) (klow_s c e v) w) h2001) (by kernel_rfl)
end Go.Proofs.YtahobmjchppciaaDoor.Sx.M5
/- What the functions of a chapter compute, as contracts; written by a program of this session. -/
open Go Go.Proofs Go.RowKit
namespace Go.Proofs.YtahobmjchppciaaDoor.Sx.M5
set_option linter.unusedVariables false
set_option linter.unusedSimpArgs false
theorem krig_rng (w z e : Int) : (0 ≤ (krig_s w z e).1 ∧ (krig_s w z e).1 < 18446744073709551616) ∧ (0 ≤ (krig_s w z e).2 ∧ (krig_s w z e).2 < 18446744073709551616) := by
  have h1 := cut_rng w z
  have h2 := cut_rng w e
  unfold krig_s
  cases (Go.bits .and .u64 (cut_s w z) (cut_s w e) != (0 : Int)) with
  | true => exact ⟨⟨Int.le_refl 0, (by decide : (0 : Int) < 18446744073709551616)⟩, ⟨Int.le_refl 0, (by decide : (0 : Int) < 18446744073709551616)⟩⟩
  | false => exact ⟨h1, h2⟩
theorem knum_rng (w z e : Int) : 0 ≤ (knum_s w z e).1 ∧ (knum_s w z e).1 < 18446744073709551616 := by
  unfold knum_s
  cases (!(((krig_s w z e).1 == (kof_s w (krig_s w z e).2).1) && ((krig_s w z e).2 == (kof_s w (krig_s w z e).2).2))) with
  | true => exact ⟨Int.le_refl 0, (by decide : (0 : Int) < 18446744073709551616)⟩
  | false => exact (krig_rng w z e).2

def kmov_s (a b w c e v : Int) (op : Int) : Int × Int := (bif !((knum_s w c e).2) then ((0 : Int), (0 : Int)) else (bif op == (18 : Int) then (bif decide (((knum_s w c e).1) ≥ (IntKind.u64.wrap (w))) then ((ksig_s a b w (IntKind.u64.wrap (w - 1))).1, (ksig_s a b w (IntKind.u64.wrap (w - 1))).2) else ((ksig_s a b w ((knum_s w c e).1)).1, (ksig_s a b w ((knum_s w c e).1)).2)) else (bif decide (((knum_s w c e).1) ≥ (IntKind.u64.wrap (w))) then ((kof_s w 0).1, (kof_s w 0).2) else (bif op == (16 : Int) then ((kup_s a b w ((knum_s w c e).1)).1, (kup_s a b w ((knum_s w c e).1)).2) else ((kdow_s a b w ((knum_s w c e).1)).1, (kdow_s a b w ((knum_s w c e).1)).2)))))
set_option maxRecDepth 100000 in
theorem kmov_ok (a b w c e v : Int) (op : Int) (hw : 1 ≤ w ∧ w ≤ 64) : Ok Tryd.prog 92 [.agg [.v (.int .u64 a), .v (.int .u64 b), .v (.int .i64 w), .v (.int .u64 c), .v (.int .u64 e), .v (.int .i64 v)], .v (.int .i64 op)] (look []) (.agg [.v (.int .u64 ((kmov_s a b w c e v op).1)), .v (.int .u64 ((kmov_s a b w c e v op).2))]) (postOf [] []) := by
  unfold kmov_s
  have nr := knum_rng w c e
  cases h2001 : (!((knum_s w c e).2))
  · have p2001 := notF h2001
    cases h6001 : (op == (18 : Int))
    · have p6001 := ne_of_beq_false h6001
      cases h4005 : (decide (((knum_s w c e).1) ≥ (IntKind.u64.wrap (w))))
      · have p4005 := of_decide_eq_false h4005
        cases h12001 : (op == (16 : Int))
        · have p12001 := ne_of_beq_false h12001
          exact ok_run Tryd.func92 rfl rfl mixed 400 [(0, .nm 701), (1, .nm 702), (1006, .call [] [] (.tup [.v (.int .u64 ((knum_s w c e).1)), .v (.bool ((knum_s w c e).2))])), (2001, .b false), (4005, .b false), (6001, .b false), (8001, .b false), (12001, .b false), (14002, .call [] [] (.agg [.v (.int .u64 ((kdow_s a b w ((knum_s w c e).1)).1)), .v (.int .u64 ((kdow_s a b w ((knum_s w c e).1)).2))]))] (all7 (knum_ok w c e ) h2001 h4005 h6001 h6001 h12001 (kdow_ok a b w ((knum_s w c e).1) (by omega))) (by kernel_rfl)
        · have p12001 := eq_of_beq h12001
          exact ok_run Tryd.func92 rfl rfl mixed 400 [(0, .nm 701), (1, .nm 702), (1006, .call [] [] (.tup [.v (.int .u64 ((knum_s w c e).1)), .v (.bool ((knum_s w c e).2))])), (2001, .b false), (4005, .b false), (6001, .b false), (8001, .b false), (12001, .b true), (14002, .call [] [] (.agg [.v (.int .u64 ((kup_s a b w ((knum_s w c e).1)).1)), .v (.int .u64 ((kup_s a b w ((knum_s w c e).1)).2))]))] (all7 (knum_ok w c e ) h2001 h4005 h6001 h6001 h12001 (kup_ok a b w ((knum_s w c e).1) (by omega))) (by kernel_rfl)
      · have p4005 := of_decide_eq_true h4005
        exact ok_run Tryd.func92 rfl rfl mixed 400 [(0, .nm 701), (1, .nm 702), (1006, .call [] [] (.tup [.v (.int .u64 ((knum_s w c e).1)), .v (.bool ((knum_s w c e).2))])), (2001, .b false), (4005, .b true), (6001, .b false), (8001, .b false), (11003, .call [] [] (.agg [.v (.int .u64 ((kof_s w 0).1)), .v (.int .u64 ((kof_s w 0).2))]))] (all6 (knum_ok w c e ) h2001 h4005 h6001 h6001 (kof_ok w 0 )) (by kernel_rfl)
    · have p6001 := eq_of_beq h6001
      cases h4005 : (decide (((knum_s w c e).1) ≥ (IntKind.u64.wrap (w))))
      · have p4005 := of_decide_eq_false h4005
        exact ok_run Tryd.func92 rfl rfl mixed 400 [(0, .nm 701), (1, .nm 702), (1006, .call [] [] (.tup [.v (.int .u64 ((knum_s w c e).1)), .v (.bool ((knum_s w c e).2))])), (2001, .b false), (4005, .b false), (6001, .b true), (8001, .b true), (14002, .call [] [] (.agg [.v (.int .u64 ((ksig_s a b w ((knum_s w c e).1)).1)), .v (.int .u64 ((ksig_s a b w ((knum_s w c e).1)).2))]))] (all6 (knum_ok w c e ) h2001 h4005 h6001 h6001 (ksig_ok a b w ((knum_s w c e).1) (by omega) (by omega))) (by kernel_rfl)
      · have p4005 := of_decide_eq_true h4005
        exact ok_run Tryd.func92 rfl rfl mixed 400 [(0, .nm 701), (1, .nm 702), (1006, .call [] [] (.tup [.v (.int .u64 ((knum_s w c e).1)), .v (.bool ((knum_s w c e).2))])), (2001, .b false), (4005, .b true), (6001, .b true), (7006, .as_ (.v (.int .i64 (w - 1)))), (14002, .call [] [] (.agg [.v (.int .u64 ((ksig_s a b w (IntKind.u64.wrap (w - 1))).1)), .v (.int .u64 ((ksig_s a b w (IntKind.u64.wrap (w - 1))).2))]))] (all6 (knum_ok w c e ) h2001 h4005 h6001 (wr64 (x := w - 1) (by omega)) (ksig_ok a b w (IntKind.u64.wrap (w - 1)) (by (simp only [wrap_u64] at * <;> omega)) (by omega))) (by kernel_rfl)
  · have p2001 := notT h2001
    exact ok_run Tryd.func92 rfl rfl mixed 400 [(0, .nm 701), (1, .nm 702), (1006, .call [] [] (.tup [.v (.int .u64 ((knum_s w c e).1)), .v (.bool ((knum_s w c e).2))])), (2001, .b true)] (all2 (knum_ok w c e ) h2001) (by kernel_rfl)

def ktab_s (a b w c e v : Int) (op : Int) : Int × Int := (bif op == (5 : Int) then (b, a) else (bif op == (13 : Int) then (Go.bits .or .u64 a c, Go.bits .and .u64 b e) else (bif op == (14 : Int) then (Go.bits .and .u64 a c, Go.bits .or .u64 b e) else (bif op == (15 : Int) then (Go.bits .andNot .u64 (Go.bits .and .u64 (kall_s a b w) (kall_s c e v)) (Go.bits .and .u64 (Go.bits .and .u64 (Go.bits .xor .u64 b e) (kall_s a b w)) (kall_s c e v)), Go.bits .and .u64 (Go.bits .and .u64 (Go.bits .xor .u64 b e) (kall_s a b w)) (kall_s c e v)) else (bif op == (8 : Int) then ((ksum_s a b w c e v op).1, (ksum_s a b w c e v op).2) else (bif op == (9 : Int) then ((ksum_s a b w c e v op).1, (ksum_s a b w c e v op).2) else (bif op == (10 : Int) then ((ksum_s a b w c e v op).1, (ksum_s a b w c e v op).2) else (bif op == (16 : Int) then ((kmov_s a b w c e v op).1, (kmov_s a b w c e v op).2) else (bif op == (17 : Int) then ((kmov_s a b w c e v op).1, (kmov_s a b w c e v op).2) else (bif op == (18 : Int) then ((kmov_s a b w c e v op).1, (kmov_s a b w c e v op).2) else (bif op == (19 : Int) then (bif (Go.bits .and .u64 b c) != (0 : Int) then ((kof_s 1 0).1, (kof_s 1 0).2) else (bif (Go.bits .and .u64 a e) != (0 : Int) then ((kof_s 1 0).1, (kof_s 1 0).2) else ((0 : Int), (0 : Int)))) else ((0 : Int), (0 : Int)))))))))))))
set_option maxRecDepth 100000 in
theorem ktab_ok (a b w c e v : Int) (op : Int) (hw : 1 ≤ w ∧ w ≤ 64) : Ok Tryd.prog 66 [.agg [.v (.int .u64 a), .v (.int .u64 b), .v (.int .i64 w), .v (.int .u64 c), .v (.int .u64 e), .v (.int .i64 v)], .v (.int .i64 op)] (look []) (.agg [.v (.int .u64 ((ktab_s a b w c e v op).1)), .v (.int .u64 ((ktab_s a b w c e v op).2))]) (postOf [] []) := by
  unfold ktab_s
  cases h3000 : (op == (5 : Int))
  · have p3000 := ne_of_beq_false h3000
    cases h5000 : (op == (13 : Int))
    · have p5000 := ne_of_beq_false h5000
      cases h7000 : (op == (14 : Int))
      · have p7000 := ne_of_beq_false h7000
        cases h9000 : (op == (15 : Int))
        · have p9000 := ne_of_beq_false h9000
          cases h12000 : (op == (8 : Int))
          · have p12000 := ne_of_beq_false h12000
            cases h13000 : (op == (9 : Int))
            · have p13000 := ne_of_beq_false h13000
              cases h14000 : (op == (10 : Int))
              · have p14000 := ne_of_beq_false h14000
                cases h16000 : (op == (16 : Int))
                · have p16000 := ne_of_beq_false h16000
                  cases h17000 : (op == (17 : Int))
                  · have p17000 := ne_of_beq_false h17000
                    cases h18000 : (op == (18 : Int))
                    · have p18000 := ne_of_beq_false h18000
                      cases h20000 : (op == (19 : Int))
                      · have p20000 := ne_of_beq_false h20000
                        exact ok_run Tryd.func66 rfl rfl mixed 400 [(0, .nm 701), (1, .nm 702), (1006, .nm 703), (1007, .nm 704), (3000, .b false), (5000, .b false), (7000, .b false), (9000, .b false), (12000, .b false), (13000, .b false), (14000, .b false), (16000, .b false), (17000, .b false), (18000, .b false), (20000, .b false)] (.cons h3000 (.cons h5000 (.cons h7000 (all8 h9000 h12000 h13000 h14000 h16000 h17000 h18000 h20000)))) (by kernel_rfl)
                      · have p20000 := eq_of_beq h20000
                        cases h21005 : ((Go.bits .and .u64 b c) != (0 : Int))
                        · have p21005 := bne_eq_false_iff_eq.1 h21005
                          cases h21012 : ((Go.bits .and .u64 a e) != (0 : Int))
                          · have p21012 := bne_eq_false_iff_eq.1 h21012
                            exact ok_run Tryd.func66 rfl rfl mixed 400 [(0, .nm 701), (1, .nm 702), (1006, .nm 703), (1007, .nm 704), (3000, .b false), (5000, .b false), (7000, .b false), (9000, .b false), (12000, .b false), (13000, .b false), (14000, .b false), (16000, .b false), (17000, .b false), (18000, .b false), (20000, .b true), (21005, .b false), (21012, .b false)] (.cons h3000 (.cons h5000 (.cons h7000 (.cons h9000 (.cons h12000 (all8 h13000 h14000 h16000 h17000 h18000 h20000 h21005 h21012)))))) (by kernel_rfl)
                          · have p21012 := bne_iff_ne.1 h21012
                            exact ok_run Tryd.func66 rfl rfl mixed 400 [(0, .nm 701), (1, .nm 702), (1006, .nm 703), (1007, .nm 704), (3000, .b false), (5000, .b false), (7000, .b false), (9000, .b false), (12000, .b false), (13000, .b false), (14000, .b false), (16000, .b false), (17000, .b false), (18000, .b false), (20000, .b true), (21005, .b false), (21012, .b true), (22000, .call [] [] (.agg [.v (.int .u64 ((kof_s 1 0).1)), .v (.int .u64 ((kof_s 1 0).2))]))] (.cons h3000 (.cons h5000 (.cons h7000 (.cons h9000 (.cons h12000 (.cons h13000 (all8 h14000 h16000 h17000 h18000 h20000 h21005 h21012 (kof_ok 1 0 )))))))) (by kernel_rfl)
                        · have p21005 := bne_iff_ne.1 h21005
                          exact ok_run Tryd.func66 rfl rfl mixed 400 [(0, .nm 701), (1, .nm 702), (1006, .nm 703), (1007, .nm 704), (3000, .b false), (5000, .b false), (7000, .b false), (9000, .b false), (12000, .b false), (13000, .b false), (14000, .b false), (16000, .b false), (17000, .b false), (18000, .b false), (20000, .b true), (21005, .b true), (22000, .call [] [] (.agg [.v (.int .u64 ((kof_s 1 0).1)), .v (.int .u64 ((kof_s 1 0).2))]))] (.cons h3000 (.cons h5000 (.cons h7000 (.cons h9000 (.cons h12000 (all8 h13000 h14000 h16000 h17000 h18000 h20000 h21005 (kof_ok 1 0 ))))))) (by kernel_rfl)
                    · have p18000 := eq_of_beq h18000
                      exact ok_run Tryd.func66 rfl rfl mixed 400 [(0, .nm 701), (1, .nm 702), (1006, .nm 703), (1007, .nm 704), (3000, .b false), (5000, .b false), (7000, .b false), (9000, .b false), (12000, .b false), (13000, .b false), (14000, .b false), (16000, .b false), (17000, .b false), (18000, .b true), (19002, .call [] [] (.agg [.v (.int .u64 ((kmov_s a b w c e v op).1)), .v (.int .u64 ((kmov_s a b w c e v op).2))]))] (.cons h3000 (.cons h5000 (.cons h7000 (all8 h9000 h12000 h13000 h14000 h16000 h17000 h18000 (kmov_ok a b w c e v op (by omega)))))) (by kernel_rfl)
                  · have p17000 := eq_of_beq h17000
                    exact ok_run Tryd.func66 rfl rfl mixed 400 [(0, .nm 701), (1, .nm 702), (1006, .nm 703), (1007, .nm 704), (3000, .b false), (5000, .b false), (7000, .b false), (9000, .b false), (12000, .b false), (13000, .b false), (14000, .b false), (16000, .b false), (17000, .b true), (19002, .call [] [] (.agg [.v (.int .u64 ((kmov_s a b w c e v op).1)), .v (.int .u64 ((kmov_s a b w c e v op).2))]))] (.cons h3000 (.cons h5000 (all8 h7000 h9000 h12000 h13000 h14000 h16000 h17000 (kmov_ok a b w c e v op (by omega))))) (by kernel_rfl)
                · have p16000 := eq_of_beq h16000
                  exact ok_run Tryd.func66 rfl rfl mixed 400 [(0, .nm 701), (1, .nm 702), (1006, .nm 703), (1007, .nm 704), (3000, .b false), (5000, .b false), (7000, .b false), (9000, .b false), (12000, .b false), (13000, .b false), (14000, .b false), (16000, .b true), (19002, .call [] [] (.agg [.v (.int .u64 ((kmov_s a b w c e v op).1)), .v (.int .u64 ((kmov_s a b w c e v op).2))]))] (.cons h3000 (all8 h5000 h7000 h9000 h12000 h13000 h14000 h16000 (kmov_ok a b w c e v op (by omega)))) (by kernel_rfl)
              · have p14000 := eq_of_beq h14000
                exact ok_run Tryd.func66 rfl rfl mixed 400 [(0, .nm 701), (1, .nm 702), (1006, .nm 703), (1007, .nm 704), (3000, .b false), (5000, .b false), (7000, .b false), (9000, .b false), (12000, .b false), (13000, .b false), (14000, .b true), (15002, .call [] [] (.agg [.v (.int .u64 ((ksum_s a b w c e v op).1)), .v (.int .u64 ((ksum_s a b w c e v op).2))]))] (all8 h3000 h5000 h7000 h9000 h12000 h13000 h14000 (ksum_ok a b w c e v op (by omega))) (by kernel_rfl)
            · have p13000 := eq_of_beq h13000
              exact ok_run Tryd.func66 rfl rfl mixed 400 [(0, .nm 701), (1, .nm 702), (1006, .nm 703), (1007, .nm 704), (3000, .b false), (5000, .b false), (7000, .b false), (9000, .b false), (12000, .b false), (13000, .b true), (15002, .call [] [] (.agg [.v (.int .u64 ((ksum_s a b w c e v op).1)), .v (.int .u64 ((ksum_s a b w c e v op).2))]))] (all7 h3000 h5000 h7000 h9000 h12000 h13000 (ksum_ok a b w c e v op (by omega))) (by kernel_rfl)
          · have p12000 := eq_of_beq h12000
            exact ok_run Tryd.func66 rfl rfl mixed 400 [(0, .nm 701), (1, .nm 702), (1006, .nm 703), (1007, .nm 704), (3000, .b false), (5000, .b false), (7000, .b false), (9000, .b false), (12000, .b true), (15002, .call [] [] (.agg [.v (.int .u64 ((ksum_s a b w c e v op).1)), .v (.int .u64 ((ksum_s a b w c e v op).2))]))] (all6 h3000 h5000 h7000 h9000 h12000 (ksum_ok a b w c e v op (by omega))) (by kernel_rfl)
        · have p9000 := eq_of_beq h9000
          exact ok_run Tryd.func66 rfl rfl mixed 400 [(0, .nm 701), (1, .nm 702), (1006, .nm 703), (1007, .nm 704), (3000, .b false), (5000, .b false), (7000, .b false), (9000, .b true), (10007, .call [] [] (.v (.int .u64 (kall_s a b w)))), (10011, .call [] [] (.v (.int .u64 (kall_s c e v)))), (11002, .call [] [] (.v (.int .u64 (kall_s a b w)))), (11005, .call [] [] (.v (.int .u64 (kall_s c e v))))] (all8 h3000 h5000 h7000 h9000 (kall_ok a b w ) (kall_ok c e v ) (kall_ok a b w ) (kall_ok c e v )) (by kernel_rfl)
      · have p7000 := eq_of_beq h7000
        exact ok_run Tryd.func66 rfl rfl mixed 400 [(0, .nm 701), (1, .nm 702), (1006, .nm 703), (1007, .nm 704), (3000, .b false), (5000, .b false), (7000, .b true)] (all3 h3000 h5000 h7000) (by kernel_rfl)
    · have p5000 := eq_of_beq h5000
      exact ok_run Tryd.func66 rfl rfl mixed 400 [(0, .nm 701), (1, .nm 702), (1006, .nm 703), (1007, .nm 704), (3000, .b false), (5000, .b true)] (all2 h3000 h5000) (by kernel_rfl)
  · have p3000 := eq_of_beq h3000
    exact ok_run Tryd.func66 rfl rfl mixed 400 [(0, .nm 701), (1, .nm 702), (1006, .nm 703), (1007, .nm 704), (3000, .b true)] (all1 h3000) (by kernel_rfl)

def kapp_s (op w a b c e : Int) : Int × Int := (bif decide (op < (5 : Int)) then ((0 : Int), (0 : Int)) else (bif decide (op > (21 : Int)) then ((0 : Int), (0 : Int)) else (bif op == (6 : Int) then ((0 : Int), (0 : Int)) else (bif op == (7 : Int) then ((0 : Int), (0 : Int)) else (bif (knum_s (max 1 (min w 64)) a b).2 then (bif (knum_s (max 1 (min w 64)) c e).2 then (bif decide (op ≥ (19 : Int)) then ((kof_s 1 (apply1_s op (max 1 (min w 64)) ((knum_s (max 1 (min w 64)) a b).1) ((knum_s (max 1 (min w 64)) c e).1))).1, (kof_s 1 (apply1_s op (max 1 (min w 64)) ((knum_s (max 1 (min w 64)) a b).1) ((knum_s (max 1 (min w 64)) c e).1))).2) else ((kof_s (max 1 (min w 64)) (apply1_s op (max 1 (min w 64)) ((knum_s (max 1 (min w 64)) a b).1) ((knum_s (max 1 (min w 64)) c e).1))).1, (kof_s (max 1 (min w 64)) (apply1_s op (max 1 (min w 64)) ((knum_s (max 1 (min w 64)) a b).1) ((knum_s (max 1 (min w 64)) c e).1))).2)) else (bif op == (5 : Int) then (bif decide (op ≥ (19 : Int)) then ((kof_s 1 (apply1_s op (max 1 (min w 64)) ((knum_s (max 1 (min w 64)) a b).1) ((knum_s (max 1 (min w 64)) c e).1))).1, (kof_s 1 (apply1_s op (max 1 (min w 64)) ((knum_s (max 1 (min w 64)) a b).1) ((knum_s (max 1 (min w 64)) c e).1))).2) else ((kof_s (max 1 (min w 64)) (apply1_s op (max 1 (min w 64)) ((knum_s (max 1 (min w 64)) a b).1) ((knum_s (max 1 (min w 64)) c e).1))).1, (kof_s (max 1 (min w 64)) (apply1_s op (max 1 (min w 64)) ((knum_s (max 1 (min w 64)) a b).1) ((knum_s (max 1 (min w 64)) c e).1))).2)) else ((ktab_s ((krig_s (max 1 (min w 64)) a b).1) ((krig_s (max 1 (min w 64)) a b).2) (max 1 (min w 64)) ((krig_s (max 1 (min w 64)) c e).1) ((krig_s (max 1 (min w 64)) c e).2) (max 1 (min w 64)) op).1, (ktab_s ((krig_s (max 1 (min w 64)) a b).1) ((krig_s (max 1 (min w 64)) a b).2) (max 1 (min w 64)) ((krig_s (max 1 (min w 64)) c e).1) ((krig_s (max 1 (min w 64)) c e).2) (max 1 (min w 64)) op).2))) else ((ktab_s ((krig_s (max 1 (min w 64)) a b).1) ((krig_s (max 1 (min w 64)) a b).2) (max 1 (min w 64)) ((krig_s (max 1 (min w 64)) c e).1) ((krig_s (max 1 (min w 64)) c e).2) (max 1 (min w 64)) op).1, (ktab_s ((krig_s (max 1 (min w 64)) a b).1) ((krig_s (max 1 (min w 64)) a b).2) (max 1 (min w 64)) ((krig_s (max 1 (min w 64)) c e).1) ((krig_s (max 1 (min w 64)) c e).2) (max 1 (min w 64)) op).2))))))
set_option maxRecDepth 100000 in
theorem kapp_ok (op w a b c e : Int)  : Ok Tryd.prog 42 [.v (.int .i64 op), .v (.int .i64 w), .agg [.v (.int .u64 a), .v (.int .u64 b)], .agg [.v (.int .u64 c), .v (.int .u64 e)]] (look []) (.agg [.v (.int .u64 ((kapp_s op w a b c e).1)), .v (.int .u64 ((kapp_s op w a b c e).2))]) (postOf [] []) := by
  unfold kapp_s
  cases h1001 : (decide (op < (5 : Int)))
  · have p1001 := of_decide_eq_false h1001
    cases h1004 : (decide (op > (21 : Int)))
    · have p1004 := of_decide_eq_false h1004
      cases h1008 : (op == (6 : Int))
      · have p1008 := ne_of_beq_false h1008
        cases h1012 : (op == (7 : Int))
        · have p1012 := ne_of_beq_false h1012
          cases h4005 : ((knum_s (max 1 (min w 64)) a b).2)
          · exact ok_run Tryd.func42 rfl rfl mixed 400 [(0, .nm 701), (1, .nm 702), (2, .nm 703), (1001, .b false), (1004, .b false), (1008, .b false), (1012, .b false), (3001, .as_ (.v (.int .i64 (min w 64)))), (3002, .as_ (.v (.int .i64 (max 1 (min w 64))))), (4002, .call [] [] (.tup [.v (.int .u64 ((knum_s (max 1 (min w 64)) a b).1)), .v (.bool ((knum_s (max 1 (min w 64)) a b).2))])), (4005, .b false), (5002, .call [] [] (.tup [.v (.int .u64 ((knum_s (max 1 (min w 64)) c e).1)), .v (.bool ((knum_s (max 1 (min w 64)) c e).2))])), (10002, .call [] [] (.agg [.v (.int .u64 ((krig_s (max 1 (min w 64)) a b).1)), .v (.int .u64 ((krig_s (max 1 (min w 64)) a b).2))])), (10007, .call [] [] (.agg [.v (.int .u64 ((krig_s (max 1 (min w 64)) c e).1)), .v (.int .u64 ((krig_s (max 1 (min w 64)) c e).2))])), (10012, .call [] [] (.agg [.v (.int .u64 ((ktab_s ((krig_s (max 1 (min w 64)) a b).1) ((krig_s (max 1 (min w 64)) a b).2) (max 1 (min w 64)) ((krig_s (max 1 (min w 64)) c e).1) ((krig_s (max 1 (min w 64)) c e).2) (max 1 (min w 64)) op).1)), .v (.int .u64 ((ktab_s ((krig_s (max 1 (min w 64)) a b).1) ((krig_s (max 1 (min w 64)) a b).2) (max 1 (min w 64)) ((krig_s (max 1 (min w 64)) c e).1) ((krig_s (max 1 (min w 64)) c e).2) (max 1 (min w 64)) op).2))]))] (.cons h1001 (.cons h1004 (.cons h1008 (.cons h1012 (all8 (minE .i64 w 64) (maxE .i64 1 (min w 64)) (knum_ok (max 1 (min w 64)) a b ) h4005 (knum_ok (max 1 (min w 64)) c e ) (krig_ok (max 1 (min w 64)) a b ) (krig_ok (max 1 (min w 64)) c e ) (ktab_ok ((krig_s (max 1 (min w 64)) a b).1) ((krig_s (max 1 (min w 64)) a b).2) (max 1 (min w 64)) ((krig_s (max 1 (min w 64)) c e).1) ((krig_s (max 1 (min w 64)) c e).2) (max 1 (min w 64)) op (by omega))))))) (by kernel_rfl)
          · cases h5005 : ((knum_s (max 1 (min w 64)) c e).2)
            · cases h6005 : (op == (5 : Int))
              · have p6005 := ne_of_beq_false h6005
                exact ok_run Tryd.func42 rfl rfl mixed 400 [(0, .nm 701), (1, .nm 702), (2, .nm 703), (1001, .b false), (1004, .b false), (1008, .b false), (1012, .b false), (3001, .as_ (.v (.int .i64 (min w 64)))), (3002, .as_ (.v (.int .i64 (max 1 (min w 64))))), (4002, .call [] [] (.tup [.v (.int .u64 ((knum_s (max 1 (min w 64)) a b).1)), .v (.bool ((knum_s (max 1 (min w 64)) a b).2))])), (4005, .b true), (5002, .call [] [] (.tup [.v (.int .u64 ((knum_s (max 1 (min w 64)) c e).1)), .v (.bool ((knum_s (max 1 (min w 64)) c e).2))])), (5005, .b false), (6005, .b false), (10002, .call [] [] (.agg [.v (.int .u64 ((krig_s (max 1 (min w 64)) a b).1)), .v (.int .u64 ((krig_s (max 1 (min w 64)) a b).2))])), (10007, .call [] [] (.agg [.v (.int .u64 ((krig_s (max 1 (min w 64)) c e).1)), .v (.int .u64 ((krig_s (max 1 (min w 64)) c e).2))])), (10012, .call [] [] (.agg [.v (.int .u64 ((ktab_s ((krig_s (max 1 (min w 64)) a b).1) ((krig_s (max 1 (min w 64)) a b).2) (max 1 (min w 64)) ((krig_s (max 1 (min w 64)) c e).1) ((krig_s (max 1 (min w 64)) c e).2) (max 1 (min w 64)) op).1)), .v (.int .u64 ((ktab_s ((krig_s (max 1 (min w 64)) a b).1) ((krig_s (max 1 (min w 64)) a b).2) (max 1 (min w 64)) ((krig_s (max 1 (min w 64)) c e).1) ((krig_s (max 1 (min w 64)) c e).2) (max 1 (min w 64)) op).2))]))] (.cons h1001 (.cons h1004 (.cons h1008 (.cons h1012 (.cons (minE .i64 w 64) (.cons (maxE .i64 1 (min w 64)) (all8 (knum_ok (max 1 (min w 64)) a b ) h4005 (knum_ok (max 1 (min w 64)) c e ) h5005 h6005 (krig_ok (max 1 (min w 64)) a b ) (krig_ok (max 1 (min w 64)) c e ) (ktab_ok ((krig_s (max 1 (min w 64)) a b).1) ((krig_s (max 1 (min w 64)) a b).2) (max 1 (min w 64)) ((krig_s (max 1 (min w 64)) c e).1) ((krig_s (max 1 (min w 64)) c e).2) (max 1 (min w 64)) op (by omega))))))))) (by kernel_rfl)
              · have p6005 := eq_of_beq h6005
                cases h7001 : (decide (op ≥ (19 : Int)))
                · have p7001 := of_decide_eq_false h7001
                  exact ok_run Tryd.func42 rfl rfl mixed 400 [(0, .nm 701), (1, .nm 702), (2, .nm 703), (1001, .b false), (1004, .b false), (1008, .b false), (1012, .b false), (3001, .as_ (.v (.int .i64 (min w 64)))), (3002, .as_ (.v (.int .i64 (max 1 (min w 64))))), (4002, .call [] [] (.tup [.v (.int .u64 ((knum_s (max 1 (min w 64)) a b).1)), .v (.bool ((knum_s (max 1 (min w 64)) a b).2))])), (4005, .b true), (5002, .call [] [] (.tup [.v (.int .u64 ((knum_s (max 1 (min w 64)) c e).1)), .v (.bool ((knum_s (max 1 (min w 64)) c e).2))])), (5005, .b false), (6005, .b true), (7001, .b false), (9005, .call [] [] (.v (.int .u64 (apply1_s op (max 1 (min w 64)) ((knum_s (max 1 (min w 64)) a b).1) ((knum_s (max 1 (min w 64)) c e).1))))), (9006, .call [] [] (.agg [.v (.int .u64 ((kof_s (max 1 (min w 64)) (apply1_s op (max 1 (min w 64)) ((knum_s (max 1 (min w 64)) a b).1) ((knum_s (max 1 (min w 64)) c e).1))).1)), .v (.int .u64 ((kof_s (max 1 (min w 64)) (apply1_s op (max 1 (min w 64)) ((knum_s (max 1 (min w 64)) a b).1) ((knum_s (max 1 (min w 64)) c e).1))).2))]))] (.cons h1001 (.cons h1004 (.cons h1008 (.cons h1012 (.cons (minE .i64 w 64) (.cons (maxE .i64 1 (min w 64)) (all8 (knum_ok (max 1 (min w 64)) a b ) h4005 (knum_ok (max 1 (min w 64)) c e ) h5005 h6005 h7001 (apply1_ok op (max 1 (min w 64)) ((knum_s (max 1 (min w 64)) a b).1) ((knum_s (max 1 (min w 64)) c e).1) ) (kof_ok (max 1 (min w 64)) (apply1_s op (max 1 (min w 64)) ((knum_s (max 1 (min w 64)) a b).1) ((knum_s (max 1 (min w 64)) c e).1)) )))))))) (by kernel_rfl)
                · have p7001 := of_decide_eq_true h7001
                  exact ok_run Tryd.func42 rfl rfl mixed 400 [(0, .nm 701), (1, .nm 702), (2, .nm 703), (1001, .b false), (1004, .b false), (1008, .b false), (1012, .b false), (3001, .as_ (.v (.int .i64 (min w 64)))), (3002, .as_ (.v (.int .i64 (max 1 (min w 64))))), (4002, .call [] [] (.tup [.v (.int .u64 ((knum_s (max 1 (min w 64)) a b).1)), .v (.bool ((knum_s (max 1 (min w 64)) a b).2))])), (4005, .b true), (5002, .call [] [] (.tup [.v (.int .u64 ((knum_s (max 1 (min w 64)) c e).1)), .v (.bool ((knum_s (max 1 (min w 64)) c e).2))])), (5005, .b false), (6005, .b true), (7001, .b true), (8004, .call [] [] (.v (.int .u64 (apply1_s op (max 1 (min w 64)) ((knum_s (max 1 (min w 64)) a b).1) ((knum_s (max 1 (min w 64)) c e).1))))), (8005, .call [] [] (.agg [.v (.int .u64 ((kof_s 1 (apply1_s op (max 1 (min w 64)) ((knum_s (max 1 (min w 64)) a b).1) ((knum_s (max 1 (min w 64)) c e).1))).1)), .v (.int .u64 ((kof_s 1 (apply1_s op (max 1 (min w 64)) ((knum_s (max 1 (min w 64)) a b).1) ((knum_s (max 1 (min w 64)) c e).1))).2))]))] (.cons h1001 (.cons h1004 (.cons h1008 (.cons h1012 (.cons (minE .i64 w 64) (.cons (maxE .i64 1 (min w 64)) (all8 (knum_ok (max 1 (min w 64)) a b ) h4005 (knum_ok (max 1 (min w 64)) c e ) h5005 h6005 h7001 (apply1_ok op (max 1 (min w 64)) ((knum_s (max 1 (min w 64)) a b).1) ((knum_s (max 1 (min w 64)) c e).1) ) (kof_ok 1 (apply1_s op (max 1 (min w 64)) ((knum_s (max 1 (min w 64)) a b).1) ((knum_s (max 1 (min w 64)) c e).1)) )))))))) (by kernel_rfl)
            · cases h7001 : (decide (op ≥ (19 : Int)))
              · have p7001 := of_decide_eq_false h7001
                exact ok_run Tryd.func42 rfl rfl mixed 400 [(0, .nm 701), (1, .nm 702), (2, .nm 703), (1001, .b false), (1004, .b false), (1008, .b false), (1012, .b false), (3001, .as_ (.v (.int .i64 (min w 64)))), (3002, .as_ (.v (.int .i64 (max 1 (min w 64))))), (4002, .call [] [] (.tup [.v (.int .u64 ((knum_s (max 1 (min w 64)) a b).1)), .v (.bool ((knum_s (max 1 (min w 64)) a b).2))])), (4005, .b true), (5002, .call [] [] (.tup [.v (.int .u64 ((knum_s (max 1 (min w 64)) c e).1)), .v (.bool ((knum_s (max 1 (min w 64)) c e).2))])), (5005, .b true), (7001, .b false), (9005, .call [] [] (.v (.int .u64 (apply1_s op (max 1 (min w 64)) ((knum_s (max 1 (min w 64)) a b).1) ((knum_s (max 1 (min w 64)) c e).1))))), (9006, .call [] [] (.agg [.v (.int .u64 ((kof_s (max 1 (min w 64)) (apply1_s op (max 1 (min w 64)) ((knum_s (max 1 (min w 64)) a b).1) ((knum_s (max 1 (min w 64)) c e).1))).1)), .v (.int .u64 ((kof_s (max 1 (min w 64)) (apply1_s op (max 1 (min w 64)) ((knum_s (max 1 (min w 64)) a b).1) ((knum_s (max 1 (min w 64)) c e).1))).2))]))] (.cons h1001 (.cons h1004 (.cons h1008 (.cons h1012 (.cons (minE .i64 w 64) (all8 (maxE .i64 1 (min w 64)) (knum_ok (max 1 (min w 64)) a b ) h4005 (knum_ok (max 1 (min w 64)) c e ) h5005 h7001 (apply1_ok op (max 1 (min w 64)) ((knum_s (max 1 (min w 64)) a b).1) ((knum_s (max 1 (min w 64)) c e).1) ) (kof_ok (max 1 (min w 64)) (apply1_s op (max 1 (min w 64)) ((knum_s (max 1 (min w 64)) a b).1) ((knum_s (max 1 (min w 64)) c e).1)) ))))))) (by kernel_rfl)
              · have p7001 := of_decide_eq_true h7001
                exact ok_run Tryd.func42 rfl rfl mixed 400 [(0, .nm 701), (1, .nm 702), (2, .nm 703), (1001, .b false), (1004, .b false), (1008, .b false), (1012, .b false), (3001, .as_ (.v (.int .i64 (min w 64)))), (3002, .as_ (.v (.int .i64 (max 1 (min w 64))))), (4002, .call [] [] (.tup [.v (.int .u64 ((knum_s (max 1 (min w 64)) a b).1)), .v (.bool ((knum_s (max 1 (min w 64)) a b).2))])), (4005, .b true), (5002, .call [] [] (.tup [.v (.int .u64 ((knum_s (max 1 (min w 64)) c e).1)), .v (.bool ((knum_s (max 1 (min w 64)) c e).2))])), (5005, .b true), (7001, .b true), (8004, .call [] [] (.v (.int .u64 (apply1_s op (max 1 (min w 64)) ((knum_s (max 1 (min w 64)) a b).1) ((knum_s (max 1 (min w 64)) c e).1))))), (8005, .call [] [] (.agg [.v (.int .u64 ((kof_s 1 (apply1_s op (max 1 (min w 64)) ((knum_s (max 1 (min w 64)) a b).1) ((knum_s (max 1 (min w 64)) c e).1))).1)), .v (.int .u64 ((kof_s 1 (apply1_s op (max 1 (min w 64)) ((knum_s (max 1 (min w 64)) a b).1) ((knum_s (max 1 (min w 64)) c e).1))).2))]))] (.cons h1001 (.cons h1004 (.cons h1008 (.cons h1012 (.cons (minE .i64 w 64) (all8 (maxE .i64 1 (min w 64)) (knum_ok (max 1 (min w 64)) a b ) h4005 (knum_ok (max 1 (min w 64)) c e ) h5005 h7001 (apply1_ok op (max 1 (min w 64)) ((knum_s (max 1 (min w 64)) a b).1) ((knum_s (max 1 (min w 64)) c e).1) ) (kof_ok 1 (apply1_s op (max 1 (min w 64)) ((knum_s (max 1 (min w 64)) a b).1) ((knum_s (max 1 (min w 64)) c e).1)) ))))))) (by kernel_rfl)
        · have p1012 := eq_of_beq h1012
          exact ok_run Tryd.func42 rfl rfl mixed 400 [(0, .nm 701), (1, .nm 702), (2, .nm 703), (1001, .b false), (1004, .b false), (1008, .b false), (1012, .b true)] (all4 h1001 h1004 h1008 h1012) (by kernel_rfl)
      · have p1008 := eq_of_beq h1008
        exact ok_run Tryd.func42 rfl rfl mixed 400 [(0, .nm 701), (1, .nm 702), (2, .nm 703), (1001, .b false), (1004, .b false), (1008, .b true)] (all3 h1001 h1004 h1008) (by kernel_rfl)
    · have p1004 := of_decide_eq_true h1004
      exact ok_run Tryd.func42 rfl rfl mixed 400 [(0, .nm 701), (1, .nm 702), (2, .nm 703), (1001, .b false), (1004, .b true)] (all2 h1001 h1004) (by kernel_rfl)
  · have p1001 := of_decide_eq_true h1001
    exact ok_run Tryd.func42 rfl rfl mixed 400 [(0, .nm 701), (1, .nm 702), (2, .nm 703), (1001, .b true)] (all1 h1001) (by kernel_rfl)
end Go.Proofs.YtahobmjchppciaaDoor.Sx.M5
/- What the program knows of bits, as natural numbers. -/
open Go Go.Proofs Go.RowKit
namespace Go.Proofs.YtahobmjchppciaaDoor.Sx.M5
set_option linter.unusedVariables false
set_option linter.unusedSimpArgs false
set_option linter.unusedSimpArgs false
namespace H
theorem andNot_nat (a b : Nat) (ha : a < 2 ^ 64) (hb : b < 2 ^ 64) : Go.bits .andNot .u64 (a : Int) (b : Int) = ((a &&& (2 ^ 64 - 1 - b) : Nat) : Int) := by
  have ha' : a % 2 ^ 64 = a := Nat.mod_eq_of_lt ha
  have hb' : b % 2 ^ 64 = b := Nat.mod_eq_of_lt hb
  have hx : a &&& (2 ^ 64 - 1 - b) < 2 ^ 64 := Nat.and_lt_two_pow _ (by omega)
  have e : IntKind.u64.bits = 64 := rfl
  simp only [Go.bits, e, BitVec.ofInt_natCast, BitVec.toNat_and, BitVec.toNat_not, BitVec.toNat_ofNat, ha', hb']
  exact u64_small (Int.natCast_nonneg _) (by omega)
theorem krig_eq (w : Int) (b : Nat × Nat) (h1 : b.1 < 2 ^ 64) (h2 : b.2 < 2 ^ 64) : krig_s w (b.1 : Int) (b.2 : Int) = KZ (rightK (cw w) b) := by
  have hr := cw_range w
  have hp := pow_le64 hr.2
  have pp := Nat.two_pow_pos (cw w)
  have l1 := Nat.mod_lt b.1 pp
  have l2 := Nat.mod_lt b.2 pp
  unfold krig_s rightK
  rw [cut_eq w _ h1, cut_eq w _ h2, and_nat _ _ (by omega) (by omega)]
  by_cases c : b.1 % 2 ^ cw w &&& b.2 % 2 ^ cw w = 0
  · rw [if_pos c, c]; rfl
  · rw [if_neg c, show ((((b.1 % 2 ^ cw w &&& b.2 % 2 ^ cw w : Nat) : Int)) != (0 : Int)) = true from bne_iff_ne.2 (by omega)]; rfl
theorem kof_eq (w : Int) (x : Nat) (hx : x < 2 ^ 64) : kof_s w (x : Int) = KZ (ofK (cw w) x) := by
  have hr := cw_range w
  have hp := pow_le64 hr.2
  have pp := Nat.two_pow_pos (cw w)
  have l1 := Nat.mod_lt x pp
  unfold kof_s ofK
  rw [cut_eq w _ hx, mask_eq, xor_nat _ _ (by omega) (by omega), mask_xor l1]
  rfl
theorem num_eq (w : Int) (b : Nat × Nat) (h1 : b.1 < 2 ^ 64) (h2 : b.2 < 2 ^ 64) : knum_s w (b.1 : Int) (b.2 : Int) = (((numK (cw w) b).1 : Int), (numK (cw w) b).2) := by
  have hr := cw_range w
  have o := right_okK (cw w) b
  have ok := ok_lt64 hr.2 o
  unfold knum_s numK
  rw [krig_eq w b h1 h2]
  generalize rightK (cw w) b = r at *
  obtain ⟨p, q⟩ := r
  have e := kof_eq w q ok.2
  unfold ofK at e
  rw [Nat.mod_eq_of_lt o.2.1] at e
  simp only [KZ] at e ⊢
  rw [e]
  simp only []
  rw [beq_self_eq_true, Bool.and_true]
  by_cases c : p = 2 ^ cw w - 1 - q
  · rw [if_pos c, show ((p : Int) == ((2 ^ cw w - 1 - q : Nat) : Int)) = true from beq_iff_eq.2 (by omega)]; rfl
  · rw [if_neg c, show ((p : Int) == ((2 ^ cw w - 1 - q : Nat) : Int)) = false from beq_eq_false_iff_ne.2 (by omega)]; rfl
theorem join_eq (w : Int) (x y : Nat × Nat) (h1 : x.1 < 2 ^ 64) (h2 : x.2 < 2 ^ 64) (h3 : y.1 < 2 ^ 64) (h4 : y.2 < 2 ^ 64) : kjoi_s w (x.1 : Int) (x.2 : Int) (y.1 : Int) (y.2 : Int) = KZ (joinK (cw w) x y) := by
  have hr := cw_range w
  have ox := ok_lt64 hr.2 (right_okK (cw w) x)
  have oy := ok_lt64 hr.2 (right_okK (cw w) y)
  unfold kjoi_s joinK
  rw [krig_eq w x h1 h2, krig_eq w y h3 h4]
  simp only [KZ]
  rw [and_nat _ _ ox.1 oy.1, and_nat _ _ ox.2 oy.2]
theorem meet_eq (w : Int) (x y : Nat × Nat) (h1 : x.1 < 2 ^ 64) (h2 : x.2 < 2 ^ 64) (h3 : y.1 < 2 ^ 64) (h4 : y.2 < 2 ^ 64) : kmee_s w (x.1 : Int) (x.2 : Int) (y.1 : Int) (y.2 : Int) = (((meetK (cw w) x y).1.1 : Int), ((meetK (cw w) x y).1.2 : Int), (meetK (cw w) x y).2) := by
  have hr := cw_range w
  have ox := ok_lt64 hr.2 (right_okK (cw w) x)
  have oy := ok_lt64 hr.2 (right_okK (cw w) y)
  unfold kmee_s meetK
  rw [krig_eq w x h1 h2, krig_eq w y h3 h4]
  simp only [KZ]
  rw [or_nat _ _ ox.1 oy.1, or_nat _ _ ox.2 oy.2, and_nat _ _ (Nat.or_lt_two_pow ox.1 oy.1) (Nat.or_lt_two_pow ox.2 oy.2)]
  by_cases c : ((rightK (cw w) x).1 ||| (rightK (cw w) y).1) &&& ((rightK (cw w) x).2 ||| (rightK (cw w) y).2) = 0
  · rw [if_pos c, c]; rfl
  · rw [if_neg c, show (((((rightK (cw w) x).1 ||| (rightK (cw w) y).1) &&& ((rightK (cw w) x).2 ||| (rightK (cw w) y).2) : Nat) : Int) != (0 : Int)) = true from bne_iff_ne.2 (by omega)]; rfl
theorem tz_is (x : Nat) (hx : x < 2 ^ 64) : tz_s (x : Int) = ((Lib.ctz 64 x : Nat) : Int) := by
  rw [tz_def]
  by_cases c : x = 0
  · rw [c]; rfl
  · rw [show (((x : Nat) : Int) == (0 : Int)) = false from beq_eq_false_iff_ne.2 (by omega), cond_false]
    obtain ⟨hlow, hk⟩ := Lib.lowest_bit 64 x c hx
    obtain ⟨hi, htab⟩ := Lib.deBruijn64_at _ hk
    have e : tzi (x : Int) = ((2 ^ Lib.ctz 64 x * 285870213051353865 % 18446744073709551616 / 288230376151711744 : Nat) : Int) := by
      have k := tz64_key x _ hx c hlow
      unfold tzi
      rw [show (0 : Int) - (x : Int) = -(x : Int) by omega, Int.fdiv_eq_ediv_of_nonneg _ (by decide)]
      exact k
    rw [e, Int.toNat_natCast, htab, IntKind.wrap_i64]
    generalize Lib.ctz 64 x = k at *
    omega
theorem low_eq (b : Nat × Nat) (w : Int) (h1 : b.1 < 2 ^ 64) (h2 : b.2 < 2 ^ 64) : klow_s (b.1 : Int) (b.2 : Int) w = (lowK b : Int) := by
  have l : b.1 ||| b.2 < 2 ^ 64 := Nat.or_lt_two_pow h1 h2
  unfold klow_s kall_s lowK
  rw [or_nat _ _ h1 h2, show IntKind.u64.max = ((2 ^ 64 - 1 : Nat) : Int) from rfl, xor_nat _ _ (by omega) l, tz_is _ (Nat.xor_lt_two_pow (by omega) l)]
theorem sums_eq (op : Int) {W : Nat} (hW1 : 1 ≤ W) (hW : W ≤ 64) {x y : Nat × Nat} (hx : OkK W x) (hy : OkK W y) : ksum_s (x.1 : Int) (x.2 : Int) (W : Int) (y.1 : Int) (y.2 : Int) (W : Int) op = KZ (sumsK op W x y) := by
  have ox := ok_lt64 hW hx
  have oy := ok_lt64 hW hy
  unfold ksum_s sumsK
  rw [low_eq _ _ ox.1 ox.2, low_eq _ _ oy.1 oy.2]
  have e : min (min (lowK x : Int) (lowK y : Int)) (W : Int) = ((min (min (lowK x) (lowK y)) W : Nat) : Int) := by omega
  rw [e]
  have hn : min (min (lowK x) (lowK y)) W ≤ 64 := by omega
  generalize min (min (lowK x) (lowK y)) W = n at *
  by_cases c : n = 0
  · rw [if_pos c, c]; rfl
  · have hc := cw_of (W := n) (by omega) hn
    have pn : 0 < 2 ^ n := Nat.pow_pos (by decide)
    have hp := pow_le64 hn
    have hv := apply_lt op (W := n) (by omega) (Nat.mod_lt x.2 pn) (Nat.mod_lt y.2 pn)
    rw [if_neg c, show ((n : Int) == (0 : Int)) = false from beq_eq_false_iff_ne.2 (by omega), cond_false, apply1_eq op _ _ _ ox.2 oy.2, hc, kof_eq _ _ (by omega), hc]
theorem in_eq {W : Nat} (hW1 : 1 ≤ W) (hW : W ≤ 64) (z e : Int) {s : Nat} (hs : s ≤ 64) : kin_s z e (W : Int) (s : Int) = (inK W s : Int) := by
  have hc := cw_of hW1 hW
  have hp := pow_le64 hW
  have hd : (2 ^ W - 1) / 2 ^ s ≤ 2 ^ W - 1 := Nat.div_le_self _ _
  unfold kin_s inK
  rw [mask_eq, hc, Int.toNat_natCast, shr_nat _ _ hs, andNot_nat _ _ (by omega) (by omega)]
theorem down_eq {W : Nat} (hW1 : 1 ≤ W) (hW : W ≤ 64) {b : Nat × Nat} (hb : OkK W b) {s : Nat} (hs : s ≤ 64) : kdow_s (b.1 : Int) (b.2 : Int) (W : Int) (s : Int) = KZ (downK W b s) := by
  have ob := ok_lt64 hW hb
  unfold kdow_s downK
  rw [in_eq hW1 hW _ _ hs, Int.toNat_natCast, shr_nat _ _ hs, shr_nat _ _ hs, or_nat _ _ (div_lt64 ob.1) (in_lt64 hW s)]
  rfl
theorem up_eq {W : Nat} (hW1 : 1 ≤ W) (hW : W ≤ 64) {b : Nat × Nat} (hb : OkK W b) {s : Nat} (hs : s < 64) : kup_s (b.1 : Int) (b.2 : Int) (W : Int) (s : Int) = KZ (upK W b s) := by
  have hc := cw_of hW1 hW
  have ob := ok_lt64 hW hb
  have ps : 2 ^ s < 2 ^ 64 := Nat.pow_lt_pow_right (by decide) hs
  have p0 : 0 < 2 ^ s := Nat.pow_pos (by decide)
  have m0 : ∀ a : Nat, a % 2 ^ 64 < 2 ^ 64 := fun a => Nat.mod_lt _ (by decide)
  unfold kup_s upK
  rw [Int.toNat_natCast, shl_nat _ _ (by omega), shl_nat _ _ (by omega), show (1 : Int) * 2 ^ min s 64 = ((1 : Nat) : Int) * 2 ^ min s 64 from rfl, shl_nat _ _ (by omega), Nat.one_mul, Nat.mod_eq_of_lt ps,
    show IntKind.u64.wrap (((2 ^ s : Nat) : Int) - 1) = ((2 ^ s - 1 : Nat) : Int) by rw [u64_small (by omega) (by omega)]; omega, or_nat _ _ (m0 _) (by omega)]
  have e := krig_eq (W : Int) (b.1 * 2 ^ s % 2 ^ 64 ||| (2 ^ s - 1), b.2 * 2 ^ s % 2 ^ 64) (Nat.or_lt_two_pow (m0 _) (by omega)) (m0 _)
  rw [hc] at e
  simp only at e
  rw [e]
theorem sign_eq {W : Nat} (hW1 : 1 ≤ W) (hW : W ≤ 64) {b : Nat × Nat} (hb : OkK W b) {s : Nat} (hs : s ≤ 64) : ksig_s (b.1 : Int) (b.2 : Int) (W : Int) (s : Int) = KZ (signK W b s) := by
  have ob := ok_lt64 hW hb
  have pt : 2 ^ (W - 1) < 2 ^ 64 := Nat.pow_lt_pow_right (by decide) (by omega)
  have e : ((W : Int) - 1).toNat = W - 1 := by omega
  unfold ksig_s signK
  rw [e, show (1 : Int) * 2 ^ min (W - 1) 64 = ((1 : Nat) : Int) * 2 ^ min (W - 1) 64 from rfl, shl_nat _ _ (by omega), Nat.one_mul, Nat.mod_eq_of_lt pt, and_nat _ _ ob.1 pt, and_nat _ _ ob.2 pt, in_eq hW1 hW _ _ hs, Int.toNat_natCast, shr_nat _ _ hs, shr_nat _ _ hs]
  rw [or_nat _ _ (div_lt64 ob.1) (in_lt64 hW s), or_nat _ _ (div_lt64 ob.2) (in_lt64 hW s)]
  by_cases c : b.1 &&& 2 ^ (W - 1) = 0
  · rw [if_pos c, c]
    by_cases d : b.2 &&& 2 ^ (W - 1) = 0
    · rw [if_pos d, d]; rfl
    · rw [if_neg d, show (((b.2 &&& 2 ^ (W - 1) : Nat) : Int) != (0 : Int)) = true from bne_iff_ne.2 (by omega)]; rfl
  · rw [if_neg c, show (((b.1 &&& 2 ^ (W - 1) : Nat) : Int) != (0 : Int)) = true from bne_iff_ne.2 (by omega)]; rfl
theorem kz_pair (z : Nat × Nat) : ((KZ z).1, (KZ z).2) = KZ z := rfl
theorem moved_eq (op : Int) {W : Nat} (hW1 : 1 ≤ W) (hW : W ≤ 64) {x y : Nat × Nat} (hx : OkK W x) (hy : OkK W y) : kmov_s (x.1 : Int) (x.2 : Int) (W : Int) (y.1 : Int) (y.2 : Int) (W : Int) op = KZ (movedK op W x y) := by
  have hc := cw_of hW1 hW
  have oy := ok_lt64 hW hy
  have e := num_eq (W : Int) y oy.1 oy.2
  rw [hc] at e
  unfold kmov_s movedK
  rw [e, u64_small (n := (W : Int)) (by omega) (by omega)]
  have ew : IntKind.u64.wrap ((W : Int) - 1) = ((W - 1 : Nat) : Int) := by rw [u64_small (by omega) (by omega)]; omega
  rw [ew]
  generalize numK W y = q at *
  obtain ⟨s, f⟩ := q
  simp only [] at *
  cases f with
  | false => rw [if_pos rfl]; rfl
  | true =>
    rw [if_neg (by decide), Bool.not_true, cond_false]
    by_cases o : op = 18
    · rw [if_pos o, show (op == (18 : Int)) = true from beq_iff_eq.2 o, cond_true]
      by_cases d : W ≤ s
      · rw [if_pos d, decide_eq_true (by omega : (s : Int) ≥ (W : Int)), cond_true, sign_eq hW1 hW hx (by omega)]
      · rw [if_neg d, decide_eq_false (by omega : ¬ (s : Int) ≥ (W : Int)), cond_false, sign_eq hW1 hW hx (by omega)]
    · rw [if_neg o, show (op == (18 : Int)) = false from beq_eq_false_iff_ne.2 o, cond_false]
      by_cases d : W ≤ s
      · rw [if_pos d, decide_eq_true (by omega : (s : Int) ≥ (W : Int)), cond_true]
        have := kof_eq (W : Int) 0 (by decide)
        rw [hc] at this
        exact this
      · rw [if_neg d, decide_eq_false (by omega : ¬ (s : Int) ≥ (W : Int)), cond_false]
        by_cases u : op = 16
        · rw [if_pos u, show (op == (16 : Int)) = true from beq_iff_eq.2 u, cond_true, up_eq hW1 hW hx (by omega)]
        · rw [if_neg u, show (op == (16 : Int)) = false from beq_eq_false_iff_ne.2 u, cond_false, down_eq hW1 hW hx (by omega)]
theorem table_eq {op : Int} (ho : isOpK op) {W : Nat} (hW1 : 1 ≤ W) (hW : W ≤ 64) {x y : Nat × Nat} (hx : OkK W x) (hy : OkK W y) : ktab_s (x.1 : Int) (x.2 : Int) (W : Int) (y.1 : Int) (y.2 : Int) (W : Int) op = KZ (tableK op W x y) := by
  have ox := ok_lt64 hW hx
  have oy := ok_lt64 hW hy
  have ax : allK x < 2 ^ 64 := Nat.or_lt_two_pow ox.1 ox.2
  have ay : allK y < 2 ^ 64 := Nat.or_lt_two_pow oy.1 oy.2
  have of1 : kof_s 1 0 = KZ (ofK 1 0) := kof_eq 1 0 (by decide)
  have bt : ∀ v : Int, op = v → (op == v) = true := fun v h => beq_iff_eq.2 h
  have bf : ∀ v : Int, op ≠ v → (op == v) = false := fun v h => beq_eq_false_iff_ne.2 h
  unfold isOpK at ho
  unfold ktab_s tableK
  by_cases c5 : op = 5
  · rw [bt 5 c5, if_pos c5]; rfl
  rw [bf 5 c5, if_neg c5, cond_false]
  by_cases c13 : op = 13
  · rw [bt 13 c13, if_pos c13, cond_true, or_nat _ _ ox.1 oy.1, and_nat _ _ ox.2 oy.2]; rfl
  rw [bf 13 c13, if_neg c13, cond_false]
  by_cases c14 : op = 14
  · rw [bt 14 c14, if_pos c14, cond_true, and_nat _ _ ox.1 oy.1, or_nat _ _ ox.2 oy.2]; rfl
  rw [bf 14 c14, if_neg c14, cond_false]
  by_cases c15 : op = 15
  · have xl : (x.2 ^^^ y.2) < 2 ^ 64 := Nat.xor_lt_two_pow ox.2 oy.2
    have xa : (x.2 ^^^ y.2) &&& allK x < 2 ^ 64 := Nat.lt_of_le_of_lt Nat.and_le_left xl
    have xb : (x.2 ^^^ y.2) &&& allK x &&& allK y < 2 ^ 64 := Nat.lt_of_le_of_lt Nat.and_le_left xa
    have ab : allK x &&& allK y < 2 ^ 64 := Nat.lt_of_le_of_lt Nat.and_le_left ax
    have e1 : ∀ w, kall_s (x.1 : Int) (x.2 : Int) w = (allK x : Int) := fun w => by unfold kall_s allK; rw [or_nat _ _ ox.1 ox.2]
    have e2 : ∀ w, kall_s (y.1 : Int) (y.2 : Int) w = (allK y : Int) := fun w => by unfold kall_s allK; rw [or_nat _ _ oy.1 oy.2]
    rw [bt 15 c15, if_pos c15, cond_true, e1, e2, xor_nat _ _ ox.2 oy.2, and_nat _ _ xl ax, and_nat _ _ xa ay, and_nat _ _ ax ay, andNot_nat _ _ ab xb]
    rfl
  rw [bf 15 c15, if_neg c15, cond_false, sums_eq op hW1 hW hx hy, moved_eq op hW1 hW hx hy, kz_pair, kz_pair, and_nat _ _ ox.2 oy.1, and_nat _ _ ox.1 oy.2, of1, kz_pair]
  by_cases c8 : op = 8 ∨ op = 9 ∨ op = 10
  · rw [if_pos c8]
    rcases c8 with h | h | h
    · rw [bt 8 h]; rfl
    · rw [bf 8 (by omega), bt 9 h]; rfl
    · rw [bf 8 (by omega), bf 9 (by omega), bt 10 h]; rfl
  rw [if_neg c8, bf 8 (by omega), bf 9 (by omega), bf 10 (by omega)]
  simp only [cond_false]
  by_cases c16 : op = 16 ∨ op = 17 ∨ op = 18
  · rw [if_pos c16]
    rcases c16 with h | h | h
    · rw [bt 16 h]; rfl
    · rw [bf 16 (by omega), bt 17 h]; rfl
    · rw [bf 16 (by omega), bf 17 (by omega), bt 18 h]; rfl
  rw [if_neg c16, bf 16 (by omega), bf 17 (by omega), bf 18 (by omega)]
  simp only [cond_false]
  by_cases c19 : op = 19
  · rw [bt 19 c19, if_pos c19, cond_true]
    by_cases d : x.2 &&& y.1 = 0
    · rw [if_pos d, d]
      by_cases e : x.1 &&& y.2 = 0
      · rw [if_pos e, e]; rfl
      · rw [if_neg e, show (((x.1 &&& y.2 : Nat) : Int) != (0 : Int)) = true from bne_iff_ne.2 (by omega)]; rfl
    · rw [if_neg d, show (((x.2 &&& y.1 : Nat) : Int) != (0 : Int)) = true from bne_iff_ne.2 (by omega)]; rfl
  · rw [bf 19 c19, if_neg c19]; rfl
theorem kapply_eq (op w : Int) (x y : Nat × Nat) (h1 : x.1 < 2 ^ 64) (h2 : x.2 < 2 ^ 64) (h3 : y.1 < 2 ^ 64) (h4 : y.2 < 2 ^ 64) : kapp_s op w (x.1 : Int) (x.2 : Int) (y.1 : Int) (y.2 : Int) = KZ (kapplyK op (cw w) x y) := by
  have hr := cw_range w
  have hp := pow_le64 hr.2
  have e : max 1 (min w 64) = (cw w : Int) := by unfold cw; omega
  have bt : ∀ v : Int, op = v → (op == v) = true := fun v h => beq_iff_eq.2 h
  have bf : ∀ v : Int, op ≠ v → (op == v) = false := fun v h => beq_eq_false_iff_ne.2 h
  unfold kapp_s kapplyK
  rw [e]
  by_cases ho : isOpK op
  · have ho' := ho
    unfold isOpK at ho'
    have lx := num_lt (cw w) x
    have ly := num_lt (cw w) y
    have n1 := num_eq (cw w : Int) x h1 h2
    have n2 := num_eq (cw w : Int) y h3 h4
    have r1 := krig_eq (cw w : Int) x h1 h2
    have r2 := krig_eq (cw w : Int) y h3 h4
    rw [cw_cw] at n1 n2 r1 r2
    have t := table_eq ho hr.1 hr.2 (right_okK (cw w) x) (right_okK (cw w) y)
    have t' : ktab_s (KZ (rightK (cw w) x)).1 (KZ (rightK (cw w) x)).2 (cw w : Int) (KZ (rightK (cw w) y)).1 (KZ (rightK (cw w) y)).2 (cw w : Int) op = KZ (tableK op (cw w) (rightK (cw w) x) (rightK (cw w) y)) := t
    have hv := apply_lt op hr.1 lx ly
    rw [if_pos ho, decide_eq_false (by omega : ¬ op < 5), decide_eq_false (by omega : ¬ op > 21), bf 6 (by omega), bf 7 (by omega), n1, n2, r1, r2, t', kz_pair]
    simp only [cond_false]
    generalize numK (cw w) x = p at *
    generalize numK (cw w) y = q at *
    obtain ⟨a, f⟩ := p
    obtain ⟨b, g⟩ := q
    simp only [] at *
    have v := apply1_eq op (cw w : Int) a b (by omega) (by omega)
    rw [cw_cw, Nat.mod_eq_of_lt lx, Nat.mod_eq_of_lt ly] at v
    rw [v]
    have k1 : kof_s 1 ((applyN op (cw w) a b : Nat) : Int) = KZ (ofK 1 (applyN op (cw w) a b)) := kof_eq 1 _ (by omega)
    have k2 : kof_s (cw w : Int) ((applyN op (cw w) a b : Nat) : Int) = KZ (ofK (cw w) (applyN op (cw w) a b)) := by rw [kof_eq _ _ (by omega), cw_cw]
    rw [k1, k2, kz_pair, kz_pair]
    have an : (bif decide (op ≥ (19 : Int)) then KZ (ofK 1 (applyN op (cw w) a b)) else KZ (ofK (cw w) (applyN op (cw w) a b))) = KZ (ofK (ansK op (cw w)) (applyN op (cw w) a b)) := by
      unfold ansK
      by_cases c : op ≥ 19
      · rw [decide_eq_true c, if_pos c]; rfl
      · rw [decide_eq_false c, if_neg c]; rfl
    rw [an]
    cases f with
    | false => rw [if_neg (by simp)]; rfl
    | true =>
      cases g with
      | true => rw [if_pos ⟨rfl, Or.inl rfl⟩]; rfl
      | false =>
        by_cases o : op = 5
        · rw [if_pos ⟨rfl, Or.inr o⟩, bt 5 o]; rfl
        · rw [if_neg (fun h => h.2.elim (fun h => by cases h) o), bf 5 o]; rfl
  · rw [if_neg ho]
    unfold isOpK at ho
    by_cases o1 : op < 5
    · rw [decide_eq_true o1]; rfl
    · rw [decide_eq_false o1]
      by_cases o2 : op > 21
      · rw [decide_eq_true o2]; rfl
      · rw [decide_eq_false o2]
        by_cases o3 : op = 6
        · rw [bt 6 o3]; rfl
        · rw [bf 6 o3, bt 7 (by omega)]; rfl
end H
end Go.Proofs.YtahobmjchppciaaDoor.Sx.M5
