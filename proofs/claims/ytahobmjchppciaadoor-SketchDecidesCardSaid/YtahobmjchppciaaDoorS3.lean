/- What the functions of a chapter compute, as contracts; written by a program of this session. -/
import Derived.Test.YtahobmjchppciaaDoorKz
import Derived.Laws.Externs
open Go Go.Proofs Go.RowKit
namespace Go.Proofs.YtahobmjchppciaaDoor.Sx.M5
set_option linter.unusedVariables false
set_option linter.unusedSimpArgs false
def whol_s (w : Int) : Int × Int := ((0 : Int), (mask_s w))
set_option maxRecDepth 100000 in
theorem whol_ok (w : Int)  : Ok Tryd.prog 46 [.v (.int .i64 w)] (look []) (.agg [.v (.int .u64 ((whol_s w).1)), .v (.int .u64 ((whol_s w).2))]) (postOf [] []) := by
  unfold whol_s
  exact ok_run Tryd.func46 rfl rfl mixed 400 [(0, .nm 701), (1001, .call [] [] (.v (.int .u64 (mask_s w))))] (all1 (mask_ok w )) (by kernel_rfl)

def pnt_s (x : Int) : Int × Int := (x, x)
set_option maxRecDepth 100000 in
theorem pnt_ok (x : Int)  : Ok Tryd.prog 62 [.v (.int .u64 x)] (look []) (.agg [.v (.int .u64 ((pnt_s x).1)), .v (.int .u64 ((pnt_s x).2))]) (postOf [] []) := by
  unfold pnt_s
  exact ok_run Tryd.func62 rfl rfl mixed 400 [(0, .nm 701)] (all0) (by kernel_rfl)

def srig_s (w a b : Int) : Int × Int := (bif decide (a > b) then ((whol_s w).1, (whol_s w).2) else (bif decide (b > (mask_s w)) then ((whol_s w).1, (whol_s w).2) else (a, b)))
set_option maxRecDepth 100000 in
theorem srig_ok (w a b : Int)  : Ok Tryd.prog 24 [.v (.int .i64 w), .agg [.v (.int .u64 a), .v (.int .u64 b)]] (look []) (.agg [.v (.int .u64 ((srig_s w a b).1)), .v (.int .u64 ((srig_s w a b).2))]) (postOf [] []) := by
  unfold srig_s
  cases h1004 : (decide (a > b))
  · have p1004 := of_decide_eq_false h1004
    cases h1010 : (decide (b > (mask_s w)))
    · have p1010 := of_decide_eq_false h1010
      exact ok_run Tryd.func24 rfl rfl mixed 400 [(0, .nm 701), (1, .nm 702), (1004, .b false), (1009, .call [] [] (.v (.int .u64 (mask_s w)))), (1010, .b false)] (all3 h1004 (mask_ok w ) h1010) (by kernel_rfl)
    · have p1010 := of_decide_eq_true h1010
      exact ok_run Tryd.func24 rfl rfl mixed 400 [(0, .nm 701), (1, .nm 702), (1004, .b false), (1009, .call [] [] (.v (.int .u64 (mask_s w)))), (1010, .b true), (2001, .call [] [] (.agg [.v (.int .u64 ((whol_s w).1)), .v (.int .u64 ((whol_s w).2))]))] (all4 h1004 (mask_ok w ) h1010 (whol_ok w )) (by kernel_rfl)
  · have p1004 := of_decide_eq_true h1004
    exact ok_run Tryd.func24 rfl rfl mixed 400 [(0, .nm 701), (1, .nm 702), (1004, .b true), (2001, .call [] [] (.agg [.v (.int .u64 ((whol_s w).1)), .v (.int .u64 ((whol_s w).2))]))] (all2 h1004 (whol_ok w )) (by kernel_rfl)

def sjoi_s (w a b c e : Int) : Int × Int := ((min ((srig_s w a b).1) ((srig_s w c e).1)), (max ((srig_s w a b).2) ((srig_s w c e).2)))
set_option maxRecDepth 100000 in
theorem sjoi_ok (w a b c e : Int)  : Ok Tryd.prog 44 [.v (.int .i64 w), .agg [.v (.int .u64 a), .v (.int .u64 b)], .agg [.v (.int .u64 c), .v (.int .u64 e)]] (look []) (.agg [.v (.int .u64 ((sjoi_s w a b c e).1)), .v (.int .u64 ((sjoi_s w a b c e).2))]) (postOf [] []) := by
  unfold sjoi_s
  exact ok_run Tryd.func44 rfl rfl mixed 400 [(0, .nm 701), (1, .nm 702), (2, .nm 703), (1002, .call [] [] (.agg [.v (.int .u64 ((srig_s w a b).1)), .v (.int .u64 ((srig_s w a b).2))])), (1005, .call [] [] (.agg [.v (.int .u64 ((srig_s w c e).1)), .v (.int .u64 ((srig_s w c e).2))])), (2004, .as_ (.v (.int .u64 (min ((srig_s w a b).1) ((srig_s w c e).1))))), (2009, .as_ (.v (.int .u64 (max ((srig_s w a b).2) ((srig_s w c e).2)))))] (all4 (srig_ok w a b ) (srig_ok w c e ) (minE .u64 ((srig_s w a b).1) ((srig_s w c e).1)) (maxE .u64 ((srig_s w a b).2) ((srig_s w c e).2))) (by kernel_rfl)

theorem mask_rng (w : Int) : 0 ≤ mask_s w ∧ mask_s w < 18446744073709551616 := by
  have h := width_rng w
  unfold mask_s
  rw [Int.fdiv_eq_ediv_of_nonneg _ (Int.le_of_lt (Int.pow_pos (by decide)))]
  have hp : (0 : Int) < 2 ^ min ((64 - width_s w).toNat) 64 := Int.pow_pos (by decide)
  exact ⟨Int.ediv_nonneg (by decide) (Int.le_of_lt hp), Int.lt_of_le_of_lt (Int.ediv_le_self _ (by decide)) (by decide)⟩
theorem srig_rng {w a b : Int} (ha : 0 ≤ a ∧ a < 18446744073709551616) (hb : 0 ≤ b ∧ b < 18446744073709551616) : (0 ≤ (srig_s w a b).1 ∧ (srig_s w a b).1 < 18446744073709551616) ∧ (0 ≤ (srig_s w a b).2 ∧ (srig_s w a b).2 < 18446744073709551616) ∧ (srig_s w a b).1 ≤ (srig_s w a b).2 := by
  have h := mask_rng w
  unfold srig_s whol_s
  cases h1 : decide (a > b) with
  | true => exact ⟨⟨Int.le_refl 0, (by decide : (0 : Int) < 18446744073709551616)⟩, h, h.1⟩
  | false =>
    have h1 := of_decide_eq_false h1
    cases h2 : decide (b > mask_s w) with
    | true => exact ⟨⟨Int.le_refl 0, (by decide : (0 : Int) < 18446744073709551616)⟩, h, h.1⟩
    | false => exact ⟨ha, hb, by show a ≤ b; omega⟩
set_option maxRecDepth 100000 in
theorem add64_run {x y : Int} (hx : 0 ≤ x) (hy : 0 ≤ y) : ∀ w : World, (callFunc 93 #[.int .u64 x, .int .u64 y, .int .u64 0]).run Tryd.prog w = .ok (.value (.tuple #[.int .u64 ((x + y) % 18446744073709551616), .int .u64 ((x + y) / 18446744073709551616)])) w := fun w => by
  rw [run_callFunc_extern Tryd.func93 (by kernel_rfl) (by kernel_rfl) (by kernel_rfl) (e := add64Entry) (by kernel_rfl), run_add64 x y 0 hx hy (by omega) (by omega)]
  simp only [Result.andThen, Int.add_zero]

def mul64_s (x y : Int) : Int × Int := (IntKind.u64.wrap ((IntKind.u64.wrap ((IntKind.u64.wrap ((x.fdiv (2 ^ 32)) * (y.fdiv (2 ^ 32)))) + ((IntKind.u64.wrap ((IntKind.u64.wrap ((x.fdiv (2 ^ 32)) * (Go.bits .and .u64 y 4294967295))) + ((IntKind.u64.wrap ((Go.bits .and .u64 x 4294967295) * (Go.bits .and .u64 y 4294967295))).fdiv (2 ^ 32)))).fdiv (2 ^ 32)))) + ((IntKind.u64.wrap ((Go.bits .and .u64 (IntKind.u64.wrap ((IntKind.u64.wrap ((x.fdiv (2 ^ 32)) * (Go.bits .and .u64 y 4294967295))) + ((IntKind.u64.wrap ((Go.bits .and .u64 x 4294967295) * (Go.bits .and .u64 y 4294967295))).fdiv (2 ^ 32)))) 4294967295) + (IntKind.u64.wrap ((Go.bits .and .u64 x 4294967295) * (y.fdiv (2 ^ 32)))))).fdiv (2 ^ 32))), IntKind.u64.wrap (x * y))
set_option maxRecDepth 100000 in
theorem mul64_ok (x y : Int)  : Ok Tryd.prog 94 [.v (.int .u64 x), .v (.int .u64 y)] (look []) (.tup [.v (.int .u64 ((mul64_s x y).1)), .v (.int .u64 ((mul64_s x y).2))]) (postOf [] []) := by
  unfold mul64_s
  exact ok_run Tryd.func94 rfl rfl mixed 400 [] (all0) (by kernel_rfl)

/-- How many bits a byte has. -/
def len8b : ByteArray := ⟨#[0, 1, 2, 2, 3, 3, 3, 3, 4, 4, 4, 4, 4, 4, 4, 4, 5, 5, 5, 5, 5, 5, 5, 5, 5, 5, 5, 5, 5, 5, 5, 5, 6, 6, 6, 6, 6, 6, 6, 6, 6, 6, 6, 6, 6, 6, 6, 6, 6, 6, 6, 6, 6, 6, 6, 6, 6, 6, 6, 6, 6, 6, 6, 6, 7, 7, 7, 7, 7, 7, 7, 7, 7, 7, 7, 7, 7, 7, 7, 7, 7, 7, 7, 7, 7, 7, 7, 7, 7, 7, 7, 7, 7, 7, 7, 7, 7, 7, 7, 7, 7, 7, 7, 7, 7, 7, 7, 7, 7, 7, 7, 7, 7, 7, 7, 7, 7, 7, 7, 7, 7, 7, 7, 7, 7, 7, 7, 7, 8, 8, 8, 8, 8, 8, 8, 8, 8, 8, 8, 8, 8, 8, 8, 8, 8, 8, 8, 8, 8, 8, 8, 8, 8, 8, 8, 8, 8, 8, 8, 8, 8, 8, 8, 8, 8, 8, 8, 8, 8, 8, 8, 8, 8, 8, 8, 8, 8, 8, 8, 8, 8, 8, 8, 8, 8, 8, 8, 8, 8, 8, 8, 8, 8, 8, 8, 8, 8, 8, 8, 8, 8, 8, 8, 8, 8, 8, 8, 8, 8, 8, 8, 8, 8, 8, 8, 8, 8, 8, 8, 8, 8, 8, 8, 8, 8, 8, 8, 8, 8, 8, 8, 8, 8, 8, 8, 8, 8, 8, 8, 8, 8, 8, 8, 8, 8, 8, 8, 8, 8, 8, 8, 8, 8, 8, 8, 8]⟩

theorem len8_size : len8b.size = 256 := by kernel_rfl
theorem sByte_len8 (i : Int) : 0 ≤ sByte len8b i ∧ sByte len8b i ≤ 8 := by
  have h : ∀ n : _root_.Fin 257, ((len8b.data.toList.getD n.val 0).toNat : Int) ≤ 8 := by decide +kernel
  unfold sByte
  refine ⟨Int.natCast_nonneg _, ?_⟩
  by_cases c : i.toNat < 257
  · exact h ⟨i.toNat, c⟩
  · have hl : len8b.data.toList.length = 256 := by kernel_rfl
    rw [List.getD_eq_getElem?_getD, List.getElem?_eq_none (by omega)]
    decide
theorem wrap_u8 (x : Int) : IntKind.u8.wrap x = x % 256 := by simp [IntKind.wrap, IntKind.bits, IntKind.signed]

def len64_s (x : Int) : Int := (bif decide (x ≥ (4294967296 : Int)) then (bif decide ((x.fdiv (2 ^ 32)) ≥ (65536 : Int)) then (bif decide (((x.fdiv (2 ^ 32)).fdiv (2 ^ 16)) ≥ (256 : Int)) then (IntKind.i64.wrap (56 + (IntKind.i64.wrap (sByte (len8b : ByteArray) (IntKind.u8.wrap (((x.fdiv (2 ^ 32)).fdiv (2 ^ 16)).fdiv (2 ^ 8))))))) else (IntKind.i64.wrap (48 + (IntKind.i64.wrap (sByte (len8b : ByteArray) (IntKind.u8.wrap ((x.fdiv (2 ^ 32)).fdiv (2 ^ 16)))))))) else (bif decide ((x.fdiv (2 ^ 32)) ≥ (256 : Int)) then (IntKind.i64.wrap (40 + (IntKind.i64.wrap (sByte (len8b : ByteArray) (IntKind.u8.wrap ((x.fdiv (2 ^ 32)).fdiv (2 ^ 8))))))) else (IntKind.i64.wrap (32 + (IntKind.i64.wrap (sByte (len8b : ByteArray) (IntKind.u8.wrap (x.fdiv (2 ^ 32))))))))) else (bif decide (x ≥ (65536 : Int)) then (bif decide ((x.fdiv (2 ^ 16)) ≥ (256 : Int)) then (IntKind.i64.wrap (24 + (IntKind.i64.wrap (sByte (len8b : ByteArray) (IntKind.u8.wrap ((x.fdiv (2 ^ 16)).fdiv (2 ^ 8))))))) else (IntKind.i64.wrap (16 + (IntKind.i64.wrap (sByte (len8b : ByteArray) (IntKind.u8.wrap (x.fdiv (2 ^ 16)))))))) else (bif decide (x ≥ (256 : Int)) then (IntKind.i64.wrap (8 + (IntKind.i64.wrap (sByte (len8b : ByteArray) (IntKind.u8.wrap (x.fdiv (2 ^ 8))))))) else (IntKind.i64.wrap (0 + (IntKind.i64.wrap (sByte (len8b : ByteArray) (IntKind.u8.wrap (x)))))))))
set_option maxRecDepth 100000 in
theorem len64_ok (x : Int) (hx : 0 ≤ x ∧ x < 18446744073709551616) : Ok Tryd.prog 28 [.v (.int .u64 x)] (look []) (.v (.int .i64 (len64_s x))) (postOf [] []) := by
  unfold len64_s
  have := len8_size
  have sb := sByte_len8
  cases h1001 : (decide (x ≥ (4294967296 : Int)))
  · have p1001 := of_decide_eq_false h1001
    cases h4001 : (decide (x ≥ (65536 : Int)))
    · have p4001 := of_decide_eq_false h4001
      cases h7001 : (decide (x ≥ (256 : Int)))
      · have p7001 := of_decide_eq_false h7001
        exact ok_run Tryd.func28 rfl rfl mixed 400 [(1001, .b false), (4001, .b false), (7001, .b false), (10003, .nat 0)] (all4 h1001 h4001 h7001 (And.intro (show (0 : Int) ≤ IntKind.u8.wrap (x) by (simp only [wrap_u8] at * <;> omega)) (show (IntKind.u8.wrap (x) : Int) < ((len8b : ByteArray).size : Int) by (simp only [wrap_u8] at * <;> omega)))) (by kernel_rfl)
      · have p7001 := of_decide_eq_true h7001
        exact ok_run Tryd.func28 rfl rfl mixed 400 [(1001, .b false), (4001, .b false), (7001, .b true), (10003, .nat 0)] (all4 h1001 h4001 h7001 (And.intro (show (0 : Int) ≤ IntKind.u8.wrap (x.fdiv (2 ^ 8)) by (simp only [wrap_u8] at * <;> omega)) (show (IntKind.u8.wrap (x.fdiv (2 ^ 8)) : Int) < ((len8b : ByteArray).size : Int) by (simp only [wrap_u8] at * <;> omega)))) (by kernel_rfl)
    · have p4001 := of_decide_eq_true h4001
      cases h7001 : (decide ((x.fdiv (2 ^ 16)) ≥ (256 : Int)))
      · have p7001 := of_decide_eq_false h7001
        exact ok_run Tryd.func28 rfl rfl mixed 400 [(1001, .b false), (4001, .b true), (7001, .b false), (10003, .nat 0)] (all4 h1001 h4001 h7001 (And.intro (show (0 : Int) ≤ IntKind.u8.wrap (x.fdiv (2 ^ 16)) by (simp only [wrap_u8] at * <;> omega)) (show (IntKind.u8.wrap (x.fdiv (2 ^ 16)) : Int) < ((len8b : ByteArray).size : Int) by (simp only [wrap_u8] at * <;> omega)))) (by kernel_rfl)
      · have p7001 := of_decide_eq_true h7001
        exact ok_run Tryd.func28 rfl rfl mixed 400 [(1001, .b false), (4001, .b true), (7001, .b true), (10003, .nat 0)] (all4 h1001 h4001 h7001 (And.intro (show (0 : Int) ≤ IntKind.u8.wrap ((x.fdiv (2 ^ 16)).fdiv (2 ^ 8)) by (simp only [wrap_u8] at * <;> omega)) (show (IntKind.u8.wrap ((x.fdiv (2 ^ 16)).fdiv (2 ^ 8)) : Int) < ((len8b : ByteArray).size : Int) by (simp only [wrap_u8] at * <;> omega)))) (by kernel_rfl)
  · have p1001 := of_decide_eq_true h1001
    cases h4001 : (decide ((x.fdiv (2 ^ 32)) ≥ (65536 : Int)))
    · have p4001 := of_decide_eq_false h4001
      cases h7001 : (decide ((x.fdiv (2 ^ 32)) ≥ (256 : Int)))
      · have p7001 := of_decide_eq_false h7001
        exact ok_run Tryd.func28 rfl rfl mixed 400 [(1001, .b true), (4001, .b false), (7001, .b false), (10003, .nat 0)] (all4 h1001 h4001 h7001 (And.intro (show (0 : Int) ≤ IntKind.u8.wrap (x.fdiv (2 ^ 32)) by (simp only [wrap_u8] at * <;> omega)) (show (IntKind.u8.wrap (x.fdiv (2 ^ 32)) : Int) < ((len8b : ByteArray).size : Int) by (simp only [wrap_u8] at * <;> omega)))) (by kernel_rfl)
      · have p7001 := of_decide_eq_true h7001
        exact ok_run Tryd.func28 rfl rfl mixed 400 [(1001, .b true), (4001, .b false), (7001, .b true), (10003, .nat 0)] (all4 h1001 h4001 h7001 (And.intro (show (0 : Int) ≤ IntKind.u8.wrap ((x.fdiv (2 ^ 32)).fdiv (2 ^ 8)) by (simp only [wrap_u8] at * <;> omega)) (show (IntKind.u8.wrap ((x.fdiv (2 ^ 32)).fdiv (2 ^ 8)) : Int) < ((len8b : ByteArray).size : Int) by (simp only [wrap_u8] at * <;> omega)))) (by kernel_rfl)
    · have p4001 := of_decide_eq_true h4001
      cases h7001 : (decide (((x.fdiv (2 ^ 32)).fdiv (2 ^ 16)) ≥ (256 : Int)))
      · have p7001 := of_decide_eq_false h7001
        exact ok_run Tryd.func28 rfl rfl mixed 400 [(1001, .b true), (4001, .b true), (7001, .b false), (10003, .nat 0)] (all4 h1001 h4001 h7001 (And.intro (show (0 : Int) ≤ IntKind.u8.wrap ((x.fdiv (2 ^ 32)).fdiv (2 ^ 16)) by (simp only [wrap_u8] at * <;> omega)) (show (IntKind.u8.wrap ((x.fdiv (2 ^ 32)).fdiv (2 ^ 16)) : Int) < ((len8b : ByteArray).size : Int) by (simp only [wrap_u8] at * <;> omega)))) (by kernel_rfl)
      · have p7001 := of_decide_eq_true h7001
        exact ok_run Tryd.func28 rfl rfl mixed 400 [(1001, .b true), (4001, .b true), (7001, .b true), (10003, .nat 0)] (all4 h1001 h4001 h7001 (And.intro (show (0 : Int) ≤ IntKind.u8.wrap (((x.fdiv (2 ^ 32)).fdiv (2 ^ 16)).fdiv (2 ^ 8)) by (simp only [wrap_u8] at * <;> omega)) (show (IntKind.u8.wrap (((x.fdiv (2 ^ 32)).fdiv (2 ^ 16)).fdiv (2 ^ 8)) : Int) < ((len8b : ByteArray).size : Int) by (simp only [wrap_u8] at * <;> omega)))) (by kernel_rfl)
end Go.Proofs.YtahobmjchppciaaDoor.Sx.M5
