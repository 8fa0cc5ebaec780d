/- What the functions of a chapter compute, as contracts; written by a program of this session. -/
import Derived.Test.YtahobmjchppciaaDoorProg
import Derived.Test.YtahobmjchppciaaDoorSx22
open Go Go.Proofs Go.RowKit
namespace Go.Proofs.YtahobmjchppciaaDoor.Sx.M5
theorem mixed : Tryd.prog.follows .mixedOrders = true := by kernel_rfl
set_option linter.unusedVariables false
set_option linter.unusedSimpArgs false
theorem wrap_u64 (n : Int) : IntKind.u64.wrap n = n % 18446744073709551616 := by simp [IntKind.wrap, IntKind.bits, IntKind.signed]
theorem wrap_u64_rng (n : Int) : 0 ≤ IntKind.u64.wrap n ∧ IntKind.u64.wrap n < 18446744073709551616 := by rw [wrap_u64]; omega
theorem bits_u64_rng (op : BinOp) (x y : Int) : 0 ≤ Go.bits op .u64 x y ∧ Go.bits op .u64 x y < 18446744073709551616 := wrap_u64_rng _
theorem wru {x : Int} (h : 0 ≤ x ∧ x < 18446744073709551616) : AV.v (.int .u64 (IntKind.u64.wrap x)) = AV.v (.int .u64 x) := by
  rw [wrap_u64, show x % 18446744073709551616 = x by omega]

def width_s (w : Int) : Int := (max 1 (min w 64))
set_option maxRecDepth 100000 in
theorem width_ok (w : Int)  : Ok Tryd.prog 48 [.v (.int .i64 w)] (look []) (.v (.int .i64 (width_s w))) (postOf [] []) := by
  unfold width_s
  exact ok_run Tryd.func48 rfl rfl mixed 400 [(1001, .as_ (.v (.int .i64 (min w 64)))), (1002, .as_ (.v (.int .i64 (max 1 (min w 64)))))] (all2 (minE .i64 w 64) (maxE .i64 1 (min w 64))) (by kernel_rfl)

theorem width_rng (w : Int) : 1 ≤ width_s w ∧ width_s w ≤ 64 := by unfold width_s; omega

def mask_s (w : Int) : Int := ((18446744073709551615 : Int).fdiv (2 ^ min ((64 - (width_s w)).toNat) 64))
set_option maxRecDepth 100000 in
theorem mask_ok (w : Int)  : Ok Tryd.prog 26 [.v (.int .i64 w)] (look []) (.v (.int .u64 (mask_s w))) (postOf [] []) := by
  unfold mask_s
  have := width_rng w
  exact ok_run Tryd.func26 rfl rfl mixed 400 [(1001, .call [] [] (.v (.int .i64 (width_s w)))), (1002, .as_ (.v (.int .i64 (64 - (width_s w))))), (1003, .nat 0)] (all3 (width_ok w ) (wr64 (x := 64 - (width_s w)) (by have := width_rng w; omega)) (show (0 : Int) ≤ 64 - (width_s w) by have := width_rng w; omega)) (by kernel_rfl)

def cut_s (w x : Int) : Int := (Go.bits .and .u64 x (mask_s w))
set_option maxRecDepth 100000 in
theorem cut_ok (w x : Int)  : Ok Tryd.prog 47 [.v (.int .i64 w), .v (.int .u64 x)] (look []) (.v (.int .u64 (cut_s w x))) (postOf [] []) := by
  unfold cut_s
  exact ok_run Tryd.func47 rfl rfl mixed 400 [(1002, .call [] [] (.v (.int .u64 (mask_s w))))] (all1 (mask_ok w )) (by kernel_rfl)

theorem cut_rng (w x : Int) : 0 ≤ cut_s w x ∧ cut_s w x < 18446744073709551616 := bits_u64_rng _ _ _

def parts_s (w x y : Int) : Int × Int := (bif y == (0 : Int) then ((mask_s w), x) else (IntKind.u64.wrap (x.tdiv y), x.tmod y))
set_option maxRecDepth 100000 in
theorem parts_ok (w x y : Int)  : Ok Tryd.prog 70 [.v (.int .i64 w), .v (.int .u64 x), .v (.int .u64 y)] (look []) (.tup [.v (.int .u64 ((parts_s w x y).1)), .v (.int .u64 ((parts_s w x y).2))]) (postOf [] []) := by
  unfold parts_s
  cases h1001 : (y == (0 : Int))
  · have p1001 := ne_of_beq_false h1001
    exact ok_run Tryd.func70 rfl rfl mixed 400 [(1001, .b false), (3002, .nat 0), (3005, .nat 0)] (all3 h1001 (show y ≠ 0 by omega) (show y ≠ 0 by omega)) (by kernel_rfl)
  · have p1001 := eq_of_beq h1001
    exact ok_run Tryd.func70 rfl rfl mixed 400 [(1001, .b true), (2001, .call [] [] (.v (.int .u64 (mask_s w))))] (all2 h1001 (mask_ok w )) (by kernel_rfl)

def sign_s (w x : Int) : Int := ((IntKind.i64.wrap (IntKind.u64.wrap (x * 2 ^ min ((64 - (width_s w)).toNat) 64))).fdiv (2 ^ min ((64 - (width_s w)).toNat) 64))
set_option maxRecDepth 100000 in
theorem sign_ok (w x : Int)  : Ok Tryd.prog 74 [.v (.int .i64 w), .v (.int .u64 x)] (look []) (.v (.int .i64 (sign_s w x))) (postOf [] []) := by
  unfold sign_s
  have := width_rng w
  exact ok_run Tryd.func74 rfl rfl mixed 400 [(1001, .call [] [] (.v (.int .i64 (width_s w)))), (1002, .as_ (.v (.int .i64 (64 - (width_s w))))), (2002, .nat 0), (2005, .nat 0)] (all4 (width_ok w ) (wr64 (x := 64 - (width_s w)) (by have := width_rng w; omega)) (show (0 : Int) ≤ 64 - (width_s w) by have := width_rng w; omega) (show (0 : Int) ≤ 64 - (width_s w) by have := width_rng w; omega)) (by kernel_rfl)

def flag_s (b : Bool) : Int := bif b then 1 else 0
set_option maxRecDepth 100000 in
theorem flag_ok (b : Bool) : Ok Tryd.prog 76 [.v (.bool b)] (look []) (.v (.int .u64 (flag_s b))) (postOf [] []) := by
  cases b
  · exact ok_run Tryd.func76 rfl rfl mixed 400 [] (all0) (by kernel_rfl)
  · exact ok_run Tryd.func76 rfl rfl mixed 400 [] (all0) (by kernel_rfl)

def move1_s (x by_ : Int) : Int := (IntKind.u64.wrap (x * 2 ^ min ((by_).toNat) 64))
set_option maxRecDepth 100000 in
theorem move1_ok (x by_ : Int) (y0 : 0 ≤ by_) : Ok Tryd.prog 72 [.v (.int .u64 by_), .ptr 600 0] (look [(600, .cells [.v (.int .u64 x)] 24)]) (.v (.int .u64 (move1_s x by_))) (postOf [(600, .cells [.v (.int .u64 x)] 24)] []) := by
  unfold move1_s
  exact ok_run Tryd.func72 rfl rfl mixed 400 [(1002, .nat 0)] (all1 (show (0 : Int) ≤ by_ by omega)) (by kernel_rfl)

def shift1_s (w y in_ x : Int) : Int := (bif decide (y ≥ (IntKind.u64.wrap (w))) then in_ else (move1_s x y))
set_option maxRecDepth 100000 in
theorem shift1_ok (w y in_ x : Int) (y0 : 0 ≤ y) : Ok Tryd.prog 71 [.v (.int .i64 w), .v (.int .u64 y), .v (.int .u64 in_), .fn (Go.Fn.func 72) [] [.ptr 600 0]] (look [(600, .cells [.v (.int .u64 x)] 24)]) (.v (.int .u64 (shift1_s w y in_ x))) (postOf [(600, .cells [.v (.int .u64 x)] 24)] []) := by
  unfold shift1_s
  cases h1003 : (decide (y ≥ (IntKind.u64.wrap (w))))
  · have p1003 := of_decide_eq_false h1003
    exact ok_run Tryd.func71 rfl rfl mixed 400 [(1003, .b false), (3002, .call [600] [] (.v (.int .u64 (move1_s x y))))] (all2 h1003 (move1_ok x y (by omega))) (by kernel_rfl)
  · have p1003 := of_decide_eq_true h1003
    exact ok_run Tryd.func71 rfl rfl mixed 400 [(1003, .b true)] (all1 h1003) (by kernel_rfl)

def move2_s (x by_ : Int) : Int := (x.fdiv (2 ^ min ((by_).toNat) 64))
set_option maxRecDepth 100000 in
theorem move2_ok (x by_ : Int) (y0 : 0 ≤ by_) : Ok Tryd.prog 73 [.v (.int .u64 by_), .ptr 600 0] (look [(600, .cells [.v (.int .u64 x)] 24)]) (.v (.int .u64 (move2_s x by_))) (postOf [(600, .cells [.v (.int .u64 x)] 24)] []) := by
  unfold move2_s
  exact ok_run Tryd.func73 rfl rfl mixed 400 [(1002, .nat 0)] (all1 (show (0 : Int) ≤ by_ by omega)) (by kernel_rfl)

def shift2_s (w y in_ x : Int) : Int := (bif decide (y ≥ (IntKind.u64.wrap (w))) then in_ else (move2_s x y))
set_option maxRecDepth 100000 in
theorem shift2_ok (w y in_ x : Int) (y0 : 0 ≤ y) : Ok Tryd.prog 71 [.v (.int .i64 w), .v (.int .u64 y), .v (.int .u64 in_), .fn (Go.Fn.func 73) [] [.ptr 600 0]] (look [(600, .cells [.v (.int .u64 x)] 24)]) (.v (.int .u64 (shift2_s w y in_ x))) (postOf [(600, .cells [.v (.int .u64 x)] 24)] []) := by
  unfold shift2_s
  cases h1003 : (decide (y ≥ (IntKind.u64.wrap (w))))
  · have p1003 := of_decide_eq_false h1003
    exact ok_run Tryd.func71 rfl rfl mixed 400 [(1003, .b false), (3002, .call [600] [] (.v (.int .u64 (move2_s x y))))] (all2 h1003 (move2_ok x y (by omega))) (by kernel_rfl)
  · have p1003 := of_decide_eq_true h1003
    exact ok_run Tryd.func71 rfl rfl mixed 400 [(1003, .b true)] (all1 h1003) (by kernel_rfl)

def move3_s (x by_ : Int) : Int := (IntKind.u64.wrap (x.fdiv (2 ^ min ((by_).toNat) 64)))
set_option maxRecDepth 100000 in
theorem move3_ok (x by_ : Int) (y0 : 0 ≤ by_) : Ok Tryd.prog 75 [.v (.int .u64 by_), .ptr 601 0] (look [(601, .cells [.v (.int .i64 x)] 2)]) (.v (.int .u64 (move3_s x by_))) (postOf [(601, .cells [.v (.int .i64 x)] 2)] []) := by
  unfold move3_s
  exact ok_run Tryd.func75 rfl rfl mixed 400 [(1002, .nat 0)] (all1 (show (0 : Int) ≤ by_ by omega)) (by kernel_rfl)

def shift3_s (w y in_ x : Int) : Int := (bif decide (y ≥ (IntKind.u64.wrap (w))) then in_ else (move3_s x y))
set_option maxRecDepth 100000 in
theorem shift3_ok (w y in_ x : Int) (y0 : 0 ≤ y) : Ok Tryd.prog 71 [.v (.int .i64 w), .v (.int .u64 y), .v (.int .u64 in_), .fn (Go.Fn.func 75) [] [.ptr 601 0]] (look [(601, .cells [.v (.int .i64 x)] 2)]) (.v (.int .u64 (shift3_s w y in_ x))) (postOf [(601, .cells [.v (.int .i64 x)] 2)] []) := by
  unfold shift3_s
  cases h1003 : (decide (y ≥ (IntKind.u64.wrap (w))))
  · have p1003 := of_decide_eq_false h1003
    exact ok_run Tryd.func71 rfl rfl mixed 400 [(1003, .b false), (3002, .call [601] [] (.v (.int .u64 (move3_s x y))))] (all2 h1003 (move3_ok x y (by omega))) (by kernel_rfl)
  · have p1003 := of_decide_eq_true h1003
    exact ok_run Tryd.func71 rfl rfl mixed 400 [(1003, .b true)] (all1 h1003) (by kernel_rfl)

def apply1_s (op w x y : Int) : Int := (bif op == (5 : Int) then (cut_s (width_s w) (Go.bits .xor .u64 IntKind.u64.max (cut_s (width_s w) x))) else (bif op == (9 : Int) then (cut_s (width_s w) (IntKind.u64.wrap ((cut_s (width_s w) x) + (IntKind.u64.wrap (0 - (cut_s (width_s w) y)))))) else (bif op == (8 : Int) then (cut_s (width_s w) (IntKind.u64.wrap ((cut_s (width_s w) x) + (cut_s (width_s w) y)))) else (bif op == (10 : Int) then (cut_s (width_s w) (IntKind.u64.wrap ((cut_s (width_s w) x) * (cut_s (width_s w) y)))) else (bif op == (11 : Int) then (cut_s (width_s w) ((parts_s (width_s w) (cut_s (width_s w) x) (cut_s (width_s w) y)).1)) else (bif op == (12 : Int) then (cut_s (width_s w) ((parts_s (width_s w) (cut_s (width_s w) x) (cut_s (width_s w) y)).2)) else (bif op == (13 : Int) then (cut_s (width_s w) (Go.bits .and .u64 (cut_s (width_s w) x) (cut_s (width_s w) y))) else (bif op == (14 : Int) then (cut_s (width_s w) (Go.bits .or .u64 (cut_s (width_s w) x) (cut_s (width_s w) y))) else (bif op == (15 : Int) then (cut_s (width_s w) (Go.bits .xor .u64 (cut_s (width_s w) x) (cut_s (width_s w) y))) else (bif op == (16 : Int) then (cut_s (width_s w) (shift1_s (width_s w) (cut_s (width_s w) y) 0 (cut_s (width_s w) x))) else (bif op == (17 : Int) then (cut_s (width_s w) (shift2_s (width_s w) (cut_s (width_s w) y) 0 (cut_s (width_s w) x))) else (bif op == (18 : Int) then (cut_s (width_s w) (shift3_s (width_s w) (cut_s (width_s w) y) (IntKind.u64.wrap ((sign_s (width_s w) (cut_s (width_s w) x)).fdiv (2 ^ 63))) (sign_s (width_s w) (cut_s (width_s w) x)))) else (bif op == (19 : Int) then (cut_s (width_s w) (flag_s ((cut_s (width_s w) x) == (cut_s (width_s w) y)))) else (bif op == (21 : Int) then (cut_s (width_s w) (flag_s (decide ((Go.bits .xor .u64 (cut_s (width_s w) x) (IntKind.u64.wrap (1 * 2 ^ min (((width_s w) - 1).toNat) 64))) < (Go.bits .xor .u64 (cut_s (width_s w) y) (IntKind.u64.wrap (1 * 2 ^ min (((width_s w) - 1).toNat) 64))))))) else (bif op == (20 : Int) then (cut_s (width_s w) (flag_s (decide ((cut_s (width_s w) x) < (cut_s (width_s w) y))))) else (cut_s (width_s w) 0))))))))))))))))
set_option maxRecDepth 100000 in
theorem apply1_ok (op w x y : Int)  : Ok Tryd.prog 63 [.v (.int .i64 op), .v (.int .i64 w), .v (.int .u64 x), .v (.int .u64 y)] (look []) (.v (.int .u64 (apply1_s op w x y))) (postOf [] []) := by
  unfold apply1_s
  cases h6000 : (op == (5 : Int))
  · have p6000 := ne_of_beq_false h6000
    cases h7000 : (op == (9 : Int))
    · have p7000 := ne_of_beq_false h7000
      cases h8000 : (op == (8 : Int))
      · have p8000 := ne_of_beq_false h8000
        cases h9000 : (op == (10 : Int))
        · have p9000 := ne_of_beq_false h9000
          cases h10000 : (op == (11 : Int))
          · have p10000 := ne_of_beq_false h10000
            cases h11000 : (op == (12 : Int))
            · have p11000 := ne_of_beq_false h11000
              cases h12000 : (op == (13 : Int))
              · have p12000 := ne_of_beq_false h12000
                cases h13000 : (op == (14 : Int))
                · have p13000 := ne_of_beq_false h13000
                  cases h14000 : (op == (15 : Int))
                  · have p14000 := ne_of_beq_false h14000
                    cases h15000 : (op == (16 : Int))
                    · have p15000 := ne_of_beq_false h15000
                      cases h16000 : (op == (17 : Int))
                      · have p16000 := ne_of_beq_false h16000
                        cases h17000 : (op == (18 : Int))
                        · have p17000 := ne_of_beq_false h17000
                          cases h18000 : (op == (19 : Int))
                          · have p18000 := ne_of_beq_false h18000
                            cases h19000 : (op == (21 : Int))
                            · have p19000 := ne_of_beq_false h19000
                              cases h20000 : (op == (20 : Int))
                              · have p20000 := ne_of_beq_false h20000
                                exact ok_run Tryd.func63 rfl rfl mixed 400 [(0, .nm 600), (1001, .call [] [] (.v (.int .i64 (width_s w)))), (2002, .call [] [] (.v (.int .u64 (cut_s (width_s w) x)))), (2005, .call [] [] (.v (.int .u64 (cut_s (width_s w) y)))), (3003, .call [] [] (.tup [.v (.int .u64 ((parts_s (width_s w) (cut_s (width_s w) x) (cut_s (width_s w) y)).1)), .v (.int .u64 ((parts_s (width_s w) (cut_s (width_s w) x) (cut_s (width_s w) y)).2))])), (6000, .b false), (7000, .b false), (8000, .b false), (9000, .b false), (10000, .b false), (11000, .b false), (12000, .b false), (13000, .b false), (14000, .b false), (15000, .b false), (16000, .b false), (17000, .b false), (18000, .b false), (19000, .b false), (20000, .b false), (38002, .call [] [] (.v (.int .u64 (cut_s (width_s w) 0))))] (.cons (width_ok w ) (.cons (cut_ok (width_s w) x ) (.cons (cut_ok (width_s w) y ) (.cons (parts_ok (width_s w) (cut_s (width_s w) x) (cut_s (width_s w) y) ) (.cons h6000 (.cons h7000 (.cons h8000 (.cons h9000 (.cons h10000 (.cons h11000 (.cons h12000 (.cons h13000 (all8 h14000 h15000 h16000 h17000 h18000 h19000 h20000 (cut_ok (width_s w) 0 )))))))))))))) (by kernel_rfl)
                              · have p20000 := eq_of_beq h20000
                                exact ok_run Tryd.func63 rfl rfl mixed 400 [(0, .nm 600), (1001, .call [] [] (.v (.int .i64 (width_s w)))), (2002, .call [] [] (.v (.int .u64 (cut_s (width_s w) x)))), (2005, .call [] [] (.v (.int .u64 (cut_s (width_s w) y)))), (3003, .call [] [] (.tup [.v (.int .u64 ((parts_s (width_s w) (cut_s (width_s w) x) (cut_s (width_s w) y)).1)), .v (.int .u64 ((parts_s (width_s w) (cut_s (width_s w) x) (cut_s (width_s w) y)).2))])), (6000, .b false), (7000, .b false), (8000, .b false), (9000, .b false), (10000, .b false), (11000, .b false), (12000, .b false), (13000, .b false), (14000, .b false), (15000, .b false), (16000, .b false), (17000, .b false), (18000, .b false), (19000, .b false), (20000, .b true), (37003, .call [] [] (.v (.int .u64 (flag_s (decide ((cut_s (width_s w) x) < (cut_s (width_s w) y))))))), (38002, .call [] [] (.v (.int .u64 (cut_s (width_s w) (flag_s (decide ((cut_s (width_s w) x) < (cut_s (width_s w) y))))))))] (.cons (width_ok w ) (.cons (cut_ok (width_s w) x ) (.cons (cut_ok (width_s w) y ) (.cons (parts_ok (width_s w) (cut_s (width_s w) x) (cut_s (width_s w) y) ) (.cons h6000 (.cons h7000 (.cons h8000 (.cons h9000 (.cons h10000 (.cons h11000 (.cons h12000 (.cons h13000 (.cons h14000 (all8 h15000 h16000 h17000 h18000 h19000 h20000 (flag_ok (decide ((cut_s (width_s w) x) < (cut_s (width_s w) y))) ) (cut_ok (width_s w) (flag_s (decide ((cut_s (width_s w) x) < (cut_s (width_s w) y)))) ))))))))))))))) (by kernel_rfl)
                            · have p19000 := eq_of_beq h19000
                              exact ok_run Tryd.func63 rfl rfl mixed 400 [(0, .nm 600), (1001, .call [] [] (.v (.int .i64 (width_s w)))), (2002, .call [] [] (.v (.int .u64 (cut_s (width_s w) x)))), (2005, .call [] [] (.v (.int .u64 (cut_s (width_s w) y)))), (3003, .call [] [] (.tup [.v (.int .u64 ((parts_s (width_s w) (cut_s (width_s w) x) (cut_s (width_s w) y)).1)), .v (.int .u64 ((parts_s (width_s w) (cut_s (width_s w) x) (cut_s (width_s w) y)).2))])), (6000, .b false), (7000, .b false), (8000, .b false), (9000, .b false), (10000, .b false), (11000, .b false), (12000, .b false), (13000, .b false), (14000, .b false), (15000, .b false), (16000, .b false), (17000, .b false), (18000, .b false), (19000, .b true), (35001, .as_ (.v (.int .i64 ((width_s w) - 1)))), (35002, .nat 0), (37003, .call [] [] (.v (.int .u64 (flag_s (decide ((Go.bits .xor .u64 (cut_s (width_s w) x) (IntKind.u64.wrap (1 * 2 ^ min (((width_s w) - 1).toNat) 64))) < (Go.bits .xor .u64 (cut_s (width_s w) y) (IntKind.u64.wrap (1 * 2 ^ min (((width_s w) - 1).toNat) 64))))))))), (38002, .call [] [] (.v (.int .u64 (cut_s (width_s w) (flag_s (decide ((Go.bits .xor .u64 (cut_s (width_s w) x) (IntKind.u64.wrap (1 * 2 ^ min (((width_s w) - 1).toNat) 64))) < (Go.bits .xor .u64 (cut_s (width_s w) y) (IntKind.u64.wrap (1 * 2 ^ min (((width_s w) - 1).toNat) 64))))))))))] (.cons (width_ok w ) (.cons (cut_ok (width_s w) x ) (.cons (cut_ok (width_s w) y ) (.cons (parts_ok (width_s w) (cut_s (width_s w) x) (cut_s (width_s w) y) ) (.cons h6000 (.cons h7000 (.cons h8000 (.cons h9000 (.cons h10000 (.cons h11000 (.cons h12000 (.cons h13000 (.cons h14000 (.cons h15000 (all8 h16000 h17000 h18000 h19000 (wr64 (x := (width_s w) - 1) (by have := width_rng w; omega)) (show (0 : Int) ≤ (width_s w) - 1 by have := width_rng w; omega) (flag_ok (decide ((Go.bits .xor .u64 (cut_s (width_s w) x) (IntKind.u64.wrap (1 * 2 ^ min (((width_s w) - 1).toNat) 64))) < (Go.bits .xor .u64 (cut_s (width_s w) y) (IntKind.u64.wrap (1 * 2 ^ min (((width_s w) - 1).toNat) 64))))) ) (cut_ok (width_s w) (flag_s (decide ((Go.bits .xor .u64 (cut_s (width_s w) x) (IntKind.u64.wrap (1 * 2 ^ min (((width_s w) - 1).toNat) 64))) < (Go.bits .xor .u64 (cut_s (width_s w) y) (IntKind.u64.wrap (1 * 2 ^ min (((width_s w) - 1).toNat) 64)))))) )))))))))))))))) (by kernel_rfl)
                          · have p18000 := eq_of_beq h18000
                            exact ok_run Tryd.func63 rfl rfl mixed 400 [(0, .nm 600), (1001, .call [] [] (.v (.int .i64 (width_s w)))), (2002, .call [] [] (.v (.int .u64 (cut_s (width_s w) x)))), (2005, .call [] [] (.v (.int .u64 (cut_s (width_s w) y)))), (3003, .call [] [] (.tup [.v (.int .u64 ((parts_s (width_s w) (cut_s (width_s w) x) (cut_s (width_s w) y)).1)), .v (.int .u64 ((parts_s (width_s w) (cut_s (width_s w) x) (cut_s (width_s w) y)).2))])), (6000, .b false), (7000, .b false), (8000, .b false), (9000, .b false), (10000, .b false), (11000, .b false), (12000, .b false), (13000, .b false), (14000, .b false), (15000, .b false), (16000, .b false), (17000, .b false), (18000, .b true), (34003, .call [] [] (.v (.int .u64 (flag_s ((cut_s (width_s w) x) == (cut_s (width_s w) y)))))), (38002, .call [] [] (.v (.int .u64 (cut_s (width_s w) (flag_s ((cut_s (width_s w) x) == (cut_s (width_s w) y)))))))] (.cons (width_ok w ) (.cons (cut_ok (width_s w) x ) (.cons (cut_ok (width_s w) y ) (.cons (parts_ok (width_s w) (cut_s (width_s w) x) (cut_s (width_s w) y) ) (.cons h6000 (.cons h7000 (.cons h8000 (.cons h9000 (.cons h10000 (.cons h11000 (.cons h12000 (all8 h13000 h14000 h15000 h16000 h17000 h18000 (flag_ok ((cut_s (width_s w) x) == (cut_s (width_s w) y)) ) (cut_ok (width_s w) (flag_s ((cut_s (width_s w) x) == (cut_s (width_s w) y))) ))))))))))))) (by kernel_rfl)
                        · have p17000 := eq_of_beq h17000
                          exact ok_run Tryd.func63 rfl rfl mixed 400 [(0, .nm 600), (1001, .call [] [] (.v (.int .i64 (width_s w)))), (2002, .call [] [] (.v (.int .u64 (cut_s (width_s w) x)))), (2005, .call [] [] (.v (.int .u64 (cut_s (width_s w) y)))), (3003, .call [] [] (.tup [.v (.int .u64 ((parts_s (width_s w) (cut_s (width_s w) x) (cut_s (width_s w) y)).1)), .v (.int .u64 ((parts_s (width_s w) (cut_s (width_s w) x) (cut_s (width_s w) y)).2))])), (6000, .b false), (7000, .b false), (8000, .b false), (9000, .b false), (10000, .b false), (11000, .b false), (12000, .b false), (13000, .b false), (14000, .b false), (15000, .b false), (16000, .b false), (17000, .b true), (32002, .call [] [] (.v (.int .i64 (sign_s (width_s w) (cut_s (width_s w) x))))), (32003, .nm 601), (33006, .call [601] [] (.v (.int .u64 (shift3_s (width_s w) (cut_s (width_s w) y) (IntKind.u64.wrap ((sign_s (width_s w) (cut_s (width_s w) x)).fdiv (2 ^ 63))) (sign_s (width_s w) (cut_s (width_s w) x)))))), (38002, .call [] [] (.v (.int .u64 (cut_s (width_s w) (shift3_s (width_s w) (cut_s (width_s w) y) (IntKind.u64.wrap ((sign_s (width_s w) (cut_s (width_s w) x)).fdiv (2 ^ 63))) (sign_s (width_s w) (cut_s (width_s w) x)))))))] (.cons (width_ok w ) (.cons (cut_ok (width_s w) x ) (.cons (cut_ok (width_s w) y ) (.cons (parts_ok (width_s w) (cut_s (width_s w) x) (cut_s (width_s w) y) ) (.cons h6000 (.cons h7000 (.cons h8000 (.cons h9000 (.cons h10000 (.cons h11000 (.cons h12000 (all8 h13000 h14000 h15000 h16000 h17000 (sign_ok (width_s w) (cut_s (width_s w) x) ) (shift3_ok (width_s w) (cut_s (width_s w) y) (IntKind.u64.wrap ((sign_s (width_s w) (cut_s (width_s w) x)).fdiv (2 ^ 63))) (sign_s (width_s w) (cut_s (width_s w) x)) (by have := width_rng w; have := cut_rng (width_s w) y; omega)) (cut_ok (width_s w) (shift3_s (width_s w) (cut_s (width_s w) y) (IntKind.u64.wrap ((sign_s (width_s w) (cut_s (width_s w) x)).fdiv (2 ^ 63))) (sign_s (width_s w) (cut_s (width_s w) x))) ))))))))))))) (by kernel_rfl)
                      · have p16000 := eq_of_beq h16000
                        exact ok_run Tryd.func63 rfl rfl mixed 400 [(0, .nm 600), (1001, .call [] [] (.v (.int .i64 (width_s w)))), (2002, .call [] [] (.v (.int .u64 (cut_s (width_s w) x)))), (2005, .call [] [] (.v (.int .u64 (cut_s (width_s w) y)))), (3003, .call [] [] (.tup [.v (.int .u64 ((parts_s (width_s w) (cut_s (width_s w) x) (cut_s (width_s w) y)).1)), .v (.int .u64 ((parts_s (width_s w) (cut_s (width_s w) x) (cut_s (width_s w) y)).2))])), (6000, .b false), (7000, .b false), (8000, .b false), (9000, .b false), (10000, .b false), (11000, .b false), (12000, .b false), (13000, .b false), (14000, .b false), (15000, .b false), (16000, .b true), (31003, .call [600] [] (.v (.int .u64 (shift2_s (width_s w) (cut_s (width_s w) y) 0 (cut_s (width_s w) x))))), (38002, .call [] [] (.v (.int .u64 (cut_s (width_s w) (shift2_s (width_s w) (cut_s (width_s w) y) 0 (cut_s (width_s w) x))))))] (.cons (width_ok w ) (.cons (cut_ok (width_s w) x ) (.cons (cut_ok (width_s w) y ) (.cons (parts_ok (width_s w) (cut_s (width_s w) x) (cut_s (width_s w) y) ) (.cons h6000 (.cons h7000 (.cons h8000 (.cons h9000 (.cons h10000 (all8 h11000 h12000 h13000 h14000 h15000 h16000 (shift2_ok (width_s w) (cut_s (width_s w) y) 0 (cut_s (width_s w) x) (by have := width_rng w; have := cut_rng (width_s w) y; omega)) (cut_ok (width_s w) (shift2_s (width_s w) (cut_s (width_s w) y) 0 (cut_s (width_s w) x)) ))))))))))) (by kernel_rfl)
                    · have p15000 := eq_of_beq h15000
                      exact ok_run Tryd.func63 rfl rfl mixed 400 [(0, .nm 600), (1001, .call [] [] (.v (.int .i64 (width_s w)))), (2002, .call [] [] (.v (.int .u64 (cut_s (width_s w) x)))), (2005, .call [] [] (.v (.int .u64 (cut_s (width_s w) y)))), (3003, .call [] [] (.tup [.v (.int .u64 ((parts_s (width_s w) (cut_s (width_s w) x) (cut_s (width_s w) y)).1)), .v (.int .u64 ((parts_s (width_s w) (cut_s (width_s w) x) (cut_s (width_s w) y)).2))])), (6000, .b false), (7000, .b false), (8000, .b false), (9000, .b false), (10000, .b false), (11000, .b false), (12000, .b false), (13000, .b false), (14000, .b false), (15000, .b true), (30003, .call [600] [] (.v (.int .u64 (shift1_s (width_s w) (cut_s (width_s w) y) 0 (cut_s (width_s w) x))))), (38002, .call [] [] (.v (.int .u64 (cut_s (width_s w) (shift1_s (width_s w) (cut_s (width_s w) y) 0 (cut_s (width_s w) x))))))] (.cons (width_ok w ) (.cons (cut_ok (width_s w) x ) (.cons (cut_ok (width_s w) y ) (.cons (parts_ok (width_s w) (cut_s (width_s w) x) (cut_s (width_s w) y) ) (.cons h6000 (.cons h7000 (.cons h8000 (.cons h9000 (all8 h10000 h11000 h12000 h13000 h14000 h15000 (shift1_ok (width_s w) (cut_s (width_s w) y) 0 (cut_s (width_s w) x) (by have := width_rng w; have := cut_rng (width_s w) y; omega)) (cut_ok (width_s w) (shift1_s (width_s w) (cut_s (width_s w) y) 0 (cut_s (width_s w) x)) )))))))))) (by kernel_rfl)
                  · have p14000 := eq_of_beq h14000
                    exact ok_run Tryd.func63 rfl rfl mixed 400 [(0, .nm 600), (1001, .call [] [] (.v (.int .i64 (width_s w)))), (2002, .call [] [] (.v (.int .u64 (cut_s (width_s w) x)))), (2005, .call [] [] (.v (.int .u64 (cut_s (width_s w) y)))), (3003, .call [] [] (.tup [.v (.int .u64 ((parts_s (width_s w) (cut_s (width_s w) x) (cut_s (width_s w) y)).1)), .v (.int .u64 ((parts_s (width_s w) (cut_s (width_s w) x) (cut_s (width_s w) y)).2))])), (6000, .b false), (7000, .b false), (8000, .b false), (9000, .b false), (10000, .b false), (11000, .b false), (12000, .b false), (13000, .b false), (14000, .b true), (38002, .call [] [] (.v (.int .u64 (cut_s (width_s w) (Go.bits .xor .u64 (cut_s (width_s w) x) (cut_s (width_s w) y))))))] (.cons (width_ok w ) (.cons (cut_ok (width_s w) x ) (.cons (cut_ok (width_s w) y ) (.cons (parts_ok (width_s w) (cut_s (width_s w) x) (cut_s (width_s w) y) ) (.cons h6000 (.cons h7000 (all8 h8000 h9000 h10000 h11000 h12000 h13000 h14000 (cut_ok (width_s w) (Go.bits .xor .u64 (cut_s (width_s w) x) (cut_s (width_s w) y)) )))))))) (by kernel_rfl)
                · have p13000 := eq_of_beq h13000
                  exact ok_run Tryd.func63 rfl rfl mixed 400 [(0, .nm 600), (1001, .call [] [] (.v (.int .i64 (width_s w)))), (2002, .call [] [] (.v (.int .u64 (cut_s (width_s w) x)))), (2005, .call [] [] (.v (.int .u64 (cut_s (width_s w) y)))), (3003, .call [] [] (.tup [.v (.int .u64 ((parts_s (width_s w) (cut_s (width_s w) x) (cut_s (width_s w) y)).1)), .v (.int .u64 ((parts_s (width_s w) (cut_s (width_s w) x) (cut_s (width_s w) y)).2))])), (6000, .b false), (7000, .b false), (8000, .b false), (9000, .b false), (10000, .b false), (11000, .b false), (12000, .b false), (13000, .b true), (38002, .call [] [] (.v (.int .u64 (cut_s (width_s w) (Go.bits .or .u64 (cut_s (width_s w) x) (cut_s (width_s w) y))))))] (.cons (width_ok w ) (.cons (cut_ok (width_s w) x ) (.cons (cut_ok (width_s w) y ) (.cons (parts_ok (width_s w) (cut_s (width_s w) x) (cut_s (width_s w) y) ) (.cons h6000 (all8 h7000 h8000 h9000 h10000 h11000 h12000 h13000 (cut_ok (width_s w) (Go.bits .or .u64 (cut_s (width_s w) x) (cut_s (width_s w) y)) ))))))) (by kernel_rfl)
              · have p12000 := eq_of_beq h12000
                exact ok_run Tryd.func63 rfl rfl mixed 400 [(0, .nm 600), (1001, .call [] [] (.v (.int .i64 (width_s w)))), (2002, .call [] [] (.v (.int .u64 (cut_s (width_s w) x)))), (2005, .call [] [] (.v (.int .u64 (cut_s (width_s w) y)))), (3003, .call [] [] (.tup [.v (.int .u64 ((parts_s (width_s w) (cut_s (width_s w) x) (cut_s (width_s w) y)).1)), .v (.int .u64 ((parts_s (width_s w) (cut_s (width_s w) x) (cut_s (width_s w) y)).2))])), (6000, .b false), (7000, .b false), (8000, .b false), (9000, .b false), (10000, .b false), (11000, .b false), (12000, .b true), (38002, .call [] [] (.v (.int .u64 (cut_s (width_s w) (Go.bits .and .u64 (cut_s (width_s w) x) (cut_s (width_s w) y))))))] (.cons (width_ok w ) (.cons (cut_ok (width_s w) x ) (.cons (cut_ok (width_s w) y ) (.cons (parts_ok (width_s w) (cut_s (width_s w) x) (cut_s (width_s w) y) ) (all8 h6000 h7000 h8000 h9000 h10000 h11000 h12000 (cut_ok (width_s w) (Go.bits .and .u64 (cut_s (width_s w) x) (cut_s (width_s w) y)) )))))) (by kernel_rfl)
            · have p11000 := eq_of_beq h11000
              exact ok_run Tryd.func63 rfl rfl mixed 400 [(0, .nm 600), (1001, .call [] [] (.v (.int .i64 (width_s w)))), (2002, .call [] [] (.v (.int .u64 (cut_s (width_s w) x)))), (2005, .call [] [] (.v (.int .u64 (cut_s (width_s w) y)))), (3003, .call [] [] (.tup [.v (.int .u64 ((parts_s (width_s w) (cut_s (width_s w) x) (cut_s (width_s w) y)).1)), .v (.int .u64 ((parts_s (width_s w) (cut_s (width_s w) x) (cut_s (width_s w) y)).2))])), (6000, .b false), (7000, .b false), (8000, .b false), (9000, .b false), (10000, .b false), (11000, .b true), (38002, .call [] [] (.v (.int .u64 (cut_s (width_s w) ((parts_s (width_s w) (cut_s (width_s w) x) (cut_s (width_s w) y)).2)))))] (.cons (width_ok w ) (.cons (cut_ok (width_s w) x ) (.cons (cut_ok (width_s w) y ) (all8 (parts_ok (width_s w) (cut_s (width_s w) x) (cut_s (width_s w) y) ) h6000 h7000 h8000 h9000 h10000 h11000 (cut_ok (width_s w) ((parts_s (width_s w) (cut_s (width_s w) x) (cut_s (width_s w) y)).2) ))))) (by kernel_rfl)
          · have p10000 := eq_of_beq h10000
            exact ok_run Tryd.func63 rfl rfl mixed 400 [(0, .nm 600), (1001, .call [] [] (.v (.int .i64 (width_s w)))), (2002, .call [] [] (.v (.int .u64 (cut_s (width_s w) x)))), (2005, .call [] [] (.v (.int .u64 (cut_s (width_s w) y)))), (3003, .call [] [] (.tup [.v (.int .u64 ((parts_s (width_s w) (cut_s (width_s w) x) (cut_s (width_s w) y)).1)), .v (.int .u64 ((parts_s (width_s w) (cut_s (width_s w) x) (cut_s (width_s w) y)).2))])), (6000, .b false), (7000, .b false), (8000, .b false), (9000, .b false), (10000, .b true), (38002, .call [] [] (.v (.int .u64 (cut_s (width_s w) ((parts_s (width_s w) (cut_s (width_s w) x) (cut_s (width_s w) y)).1)))))] (.cons (width_ok w ) (.cons (cut_ok (width_s w) x ) (all8 (cut_ok (width_s w) y ) (parts_ok (width_s w) (cut_s (width_s w) x) (cut_s (width_s w) y) ) h6000 h7000 h8000 h9000 h10000 (cut_ok (width_s w) ((parts_s (width_s w) (cut_s (width_s w) x) (cut_s (width_s w) y)).1) )))) (by kernel_rfl)
        · have p9000 := eq_of_beq h9000
          exact ok_run Tryd.func63 rfl rfl mixed 400 [(0, .nm 600), (1001, .call [] [] (.v (.int .i64 (width_s w)))), (2002, .call [] [] (.v (.int .u64 (cut_s (width_s w) x)))), (2005, .call [] [] (.v (.int .u64 (cut_s (width_s w) y)))), (3003, .call [] [] (.tup [.v (.int .u64 ((parts_s (width_s w) (cut_s (width_s w) x) (cut_s (width_s w) y)).1)), .v (.int .u64 ((parts_s (width_s w) (cut_s (width_s w) x) (cut_s (width_s w) y)).2))])), (6000, .b false), (7000, .b false), (8000, .b false), (9000, .b true), (38002, .call [] [] (.v (.int .u64 (cut_s (width_s w) (IntKind.u64.wrap ((cut_s (width_s w) x) * (cut_s (width_s w) y)))))))] (.cons (width_ok w ) (all8 (cut_ok (width_s w) x ) (cut_ok (width_s w) y ) (parts_ok (width_s w) (cut_s (width_s w) x) (cut_s (width_s w) y) ) h6000 h7000 h8000 h9000 (cut_ok (width_s w) (IntKind.u64.wrap ((cut_s (width_s w) x) * (cut_s (width_s w) y))) ))) (by kernel_rfl)
      · have p8000 := eq_of_beq h8000
        exact ok_run Tryd.func63 rfl rfl mixed 400 [(0, .nm 600), (1001, .call [] [] (.v (.int .i64 (width_s w)))), (2002, .call [] [] (.v (.int .u64 (cut_s (width_s w) x)))), (2005, .call [] [] (.v (.int .u64 (cut_s (width_s w) y)))), (3003, .call [] [] (.tup [.v (.int .u64 ((parts_s (width_s w) (cut_s (width_s w) x) (cut_s (width_s w) y)).1)), .v (.int .u64 ((parts_s (width_s w) (cut_s (width_s w) x) (cut_s (width_s w) y)).2))])), (6000, .b false), (7000, .b false), (8000, .b true), (38002, .call [] [] (.v (.int .u64 (cut_s (width_s w) (IntKind.u64.wrap ((cut_s (width_s w) x) + (cut_s (width_s w) y)))))))] (all8 (width_ok w ) (cut_ok (width_s w) x ) (cut_ok (width_s w) y ) (parts_ok (width_s w) (cut_s (width_s w) x) (cut_s (width_s w) y) ) h6000 h7000 h8000 (cut_ok (width_s w) (IntKind.u64.wrap ((cut_s (width_s w) x) + (cut_s (width_s w) y))) )) (by kernel_rfl)
    · have p7000 := eq_of_beq h7000
      exact ok_run Tryd.func63 rfl rfl mixed 400 [(0, .nm 600), (1001, .call [] [] (.v (.int .i64 (width_s w)))), (2002, .call [] [] (.v (.int .u64 (cut_s (width_s w) x)))), (2005, .call [] [] (.v (.int .u64 (cut_s (width_s w) y)))), (3003, .call [] [] (.tup [.v (.int .u64 ((parts_s (width_s w) (cut_s (width_s w) x) (cut_s (width_s w) y)).1)), .v (.int .u64 ((parts_s (width_s w) (cut_s (width_s w) x) (cut_s (width_s w) y)).2))])), (6000, .b false), (7000, .b true), (38002, .call [] [] (.v (.int .u64 (cut_s (width_s w) (IntKind.u64.wrap ((cut_s (width_s w) x) + (IntKind.u64.wrap (0 - (cut_s (width_s w) y)))))))))] (all7 (width_ok w ) (cut_ok (width_s w) x ) (cut_ok (width_s w) y ) (parts_ok (width_s w) (cut_s (width_s w) x) (cut_s (width_s w) y) ) h6000 h7000 (cut_ok (width_s w) (IntKind.u64.wrap ((cut_s (width_s w) x) + (IntKind.u64.wrap (0 - (cut_s (width_s w) y))))) )) (by kernel_rfl)
  · have p6000 := eq_of_beq h6000
    exact ok_run Tryd.func63 rfl rfl mixed 400 [(0, .nm 600), (1001, .call [] [] (.v (.int .i64 (width_s w)))), (2002, .call [] [] (.v (.int .u64 (cut_s (width_s w) x)))), (2005, .call [] [] (.v (.int .u64 (cut_s (width_s w) y)))), (3003, .call [] [] (.tup [.v (.int .u64 ((parts_s (width_s w) (cut_s (width_s w) x) (cut_s (width_s w) y)).1)), .v (.int .u64 ((parts_s (width_s w) (cut_s (width_s w) x) (cut_s (width_s w) y)).2))])), (6000, .b true), (38002, .call [] [] (.v (.int .u64 (cut_s (width_s w) (Go.bits .xor .u64 IntKind.u64.max (cut_s (width_s w) x))))))] (all6 (width_ok w ) (cut_ok (width_s w) x ) (cut_ok (width_s w) y ) (parts_ok (width_s w) (cut_s (width_s w) x) (cut_s (width_s w) y) ) h6000 (cut_ok (width_s w) (Go.bits .xor .u64 IntKind.u64.max (cut_s (width_s w) x)) )) (by kernel_rfl)
end Go.Proofs.YtahobmjchppciaaDoor.Sx.M5
