/- What the functions of a chapter compute, as contracts; written by a program of this session. -/
import Derived.Test.YteolbecihipcaaaM7
open Go Go.Proofs Go.RowKit
namespace Go.Proofs.Yteolbecihipcaaa.Sx.M5
set_option linter.unusedVariables false
set_option linter.unusedSimpArgs false
def run_c14 (p : Img) (inp : List Int) (steps : Int) (pl : Int) (regs : (Nat → Int)) (ms : List Int) (os : List Int) (en : Int) (path : List Int) : List Int × Int × (Nat → Int) × List Int × Int := (path, en, regs, ms, (0 : Int))
set_option maxRecDepth 100000 in
theorem run_c14ok (p : Img) (inp : List Int) (steps : Int) (hp : Small p) (hI : ImmOk p) (hn : inp.length < 2 ^ 40) (pl : Int) (regs : (Nat → Int)) (ms : List Int) (os : List Int) (en : Int) (path : List Int)  : Good Try.prog 10 Try.f10.ntmps (look []) false (.tup [.agg (cat [.ro 1 (((run_c14 p inp steps pl regs ms os en path).1).length) (((run_c14 p inp steps pl regs ms os en path).1).map ei), .v (.int .i64 ((run_c14 p inp steps pl regs ms os en path).2.1))] (cat (arrA aU 8 ((run_c14 p inp steps pl regs ms os en path).2.2.1)) [.ro 1 (((run_c14 p inp steps pl regs ms os en path).2.2.2.1).length) (((run_c14 p inp steps pl regs ms os en path).2.2.2.1).map eb)])), .v (.int .i64 ((run_c14 p inp steps pl regs ms os en path).2.2.2.2))]) (postOf [] []) (cutAt Try.f10 14) [(6, .ptr 102 0), (7, .v (.int .i64 0)), (10, .ptr 501 0), (11, .ptr 510 0)] [(101, .cells [.v (.int .i64 p.mem), .v (.int .i64 p.stack), .v (.int .i64 p.input), .ro 1 p.data.length ((p.data).map eb), .ro 1 p.funs.length ((p.funs).map ei), .ro 5 p.code.length ((p.code).map eIns)] 26), (102, .cells (cat [.v (.slice none 0 0), .v (.int .i64 0)] (cat (arrA aU 8 (fun _ => 0)) [.v (.slice none 0 0)])) 34), (503, .row 1 5 ms.length ((ms).map eb)), (501, .cells (cat [.v (.int .i64 p.mem), .v (.int .i64 p.stack), .v (.int .i64 p.input), .ro 1 p.data.length ((p.data).map eb), .ro 1 p.funs.length ((p.funs).map ei), .ro 5 p.code.length ((p.code).map eIns), .ro 1 inp.length ((inp).map eb), .v (.int .i64 pl)] (cat (arrA aU 8 regs) [.own 503, .own 504])) 61), (510, .cells (cat [.own 511, .v (.int .i64 en)] (cat (arrA aU 8 (fun _ => 0)) [.v (.slice none 0 0)])) 34), (511, .row 1 3 path.length ((path).map ei)), (504, .row 1 3 os.length ((os).map ei))] := by
  unfold run_c14
  refine Good.freeze (n := 511) (by rfl) ?_
  refine Good.freeze (n := 503) (by rfl) ?_
  exact good_run Try.func10 mixed 400 [] (all0) (by kernel_rfl)
def run_l0 (p : Img) (inp : List Int) (steps : Int) : Nat → Int → Int → (Nat → Int) → List Int → List Int → Int → List Int → List Int × Int × (Nat → Int) × List Int × Int
  | 0, _, _, _, _, _, _, _ => default
  | m + 1, k, pl, regs, ms, os, en, path => (bif decide (k < (max 0 (min steps 4096))) then (bif ((one_s p inp pl regs ms os).1) != (0 : Int) then (run_c14 p inp steps ((one_s p inp pl regs ms os).2.1) ((one_s p inp pl regs ms os).2.2.1) ((one_s p inp pl regs ms os).2.2.2.1) ((one_s p inp pl regs ms os).2.2.2.2) ((one_s p inp pl regs ms os).1) path) else (run_l0 p inp steps m (k + 1) ((one_s p inp pl regs ms os).2.1) ((one_s p inp pl regs ms os).2.2.1) ((one_s p inp pl regs ms os).2.2.2.1) ((one_s p inp pl regs ms os).2.2.2.2) ((one_s p inp pl regs ms os).1) (path ++ ([(one_s p inp pl regs ms os).2.1] : List Int)))) else (run_c14 p inp steps pl regs ms os en path))
set_option maxRecDepth 100000 in
theorem run_lok0 (p : Img) (inp : List Int) (steps : Int) (hp : Small p) (hI : ImmOk p) (hn : inp.length < 2 ^ 40) : ∀ (m : Nat) (k : Int) (pl : Int) (regs : (Nat → Int)) (ms : List Int) (os : List Int) (en : Int) (path : List Int), (0 ≤ k) → (ms.length ≤ 64) → (os.length ≤ 16) → ((path.length : Int) = k + 1) → (ValidP p) → (max 0 (min steps 4096) - (k : Int)).toNat < m → Good Try.prog 10 Try.f10.ntmps (look []) false (.tup [.agg (cat [.ro 1 (((run_l0 p inp steps m k pl regs ms os en path).1).length) (((run_l0 p inp steps m k pl regs ms os en path).1).map ei), .v (.int .i64 ((run_l0 p inp steps m k pl regs ms os en path).2.1))] (cat (arrA aU 8 ((run_l0 p inp steps m k pl regs ms os en path).2.2.1)) [.ro 1 (((run_l0 p inp steps m k pl regs ms os en path).2.2.2.1).length) (((run_l0 p inp steps m k pl regs ms os en path).2.2.2.1).map eb)])), .v (.int .i64 ((run_l0 p inp steps m k pl regs ms os en path).2.2.2.2))]) (postOf [] []) (headAt Try.f10 0) [(6, .ptr 102 0), (7, .v (.int .i64 0)), (10, .ptr 501 0), (11, .ptr 510 0), (37, .v (.int .i64 (max 0 (min steps 4096)))), (38, .v (.int .i64 k))] [(504, .row 1 3 os.length ((os).map ei)), (101, .cells [.v (.int .i64 p.mem), .v (.int .i64 p.stack), .v (.int .i64 p.input), .ro 1 p.data.length ((p.data).map eb), .ro 1 p.funs.length ((p.funs).map ei), .ro 5 p.code.length ((p.code).map eIns)] 26), (102, .cells (cat [.v (.slice none 0 0), .v (.int .i64 0)] (cat (arrA aU 8 (fun _ => 0)) [.v (.slice none 0 0)])) 34), (503, .row 1 5 ms.length ((ms).map eb)), (501, .cells (cat [.v (.int .i64 p.mem), .v (.int .i64 p.stack), .v (.int .i64 p.input), .ro 1 p.data.length ((p.data).map eb), .ro 1 p.funs.length ((p.funs).map ei), .ro 5 p.code.length ((p.code).map eIns), .ro 1 inp.length ((inp).map eb), .v (.int .i64 pl)] (cat (arrA aU 8 regs) [.own 503, .own 504])) 61), (510, .cells (cat [.own 511, .v (.int .i64 en)] (cat (arrA aU 8 (fun _ => 0)) [.v (.slice none 0 0)])) 34), (511, .row 1 3 path.length ((path).map ei))] := by
  intro m
  induction m with
  | zero => intro k pl regs ms os en path i1 i2 i3 i4 hv hm; exact absurd hm (Nat.not_lt_zero _)
  | succ m ih =>
    intro k pl regs ms os en path i1 i2 i3 i4 hv hm
    rw [run_l0]
    cases h9000 : (decide (k < (max 0 (min steps 4096))))
    · have p9000 := of_decide_eq_false h9000
      refine good_head (T := [(6, .ptr 102 0), (7, .v (.int .i64 0)), (10, .ptr 501 0), (11, .ptr 510 0)]) (H := [(101, .cells [.v (.int .i64 p.mem), .v (.int .i64 p.stack), .v (.int .i64 p.input), .ro 1 p.data.length ((p.data).map eb), .ro 1 p.funs.length ((p.funs).map ei), .ro 5 p.code.length ((p.code).map eIns)] 26), (102, .cells (cat [.v (.slice none 0 0), .v (.int .i64 0)] (cat (arrA aU 8 (fun _ => 0)) [.v (.slice none 0 0)])) 34), (503, .row 1 5 ms.length ((ms).map eb)), (501, .cells (cat [.v (.int .i64 p.mem), .v (.int .i64 p.stack), .v (.int .i64 p.input), .ro 1 p.data.length ((p.data).map eb), .ro 1 p.funs.length ((p.funs).map ei), .ro 5 p.code.length ((p.code).map eIns), .ro 1 inp.length ((inp).map eb), .v (.int .i64 pl)] (cat (arrA aU 8 regs) [.own 503, .own 504])) 61), (510, .cells (cat [.own 511, .v (.int .i64 en)] (cat (arrA aU 8 (fun _ => 0)) [.v (.slice none 0 0)])) 34), (511, .row 1 3 path.length ((path).map ei)), (504, .row 1 3 os.length ((os).map ei))]) (todo' := cutAt Try.f10 14) Try.func10 mixed 400 [(9000, .b false), (14999, .b true)] (all1 h9000) (by kernel_rfl) ?_
      exact run_c14ok p inp steps hp hI hn pl regs ms os en path 
    · have p9000 := of_decide_eq_true h9000
      cases h11002 : (((one_s p inp pl regs ms os).1) != (0 : Int))
      · have p11002 := bne_eq_false_iff_eq.1 h11002
        refine good_head (T := [(6, .ptr 102 0), (7, .v (.int .i64 0)), (10, .ptr 501 0), (11, .ptr 510 0), (37, .v (.int .i64 (max 0 (min steps 4096)))), (38, .v (.int .i64 (k + 1)))]) (H := [(505, .row 1 3 (((one_s p inp pl regs ms os).2.2.2.2).length) (((one_s p inp pl regs ms os).2.2.2.2).map ei)), (101, .cells [.v (.int .i64 p.mem), .v (.int .i64 p.stack), .v (.int .i64 p.input), .ro 1 p.data.length ((p.data).map eb), .ro 1 p.funs.length ((p.funs).map ei), .ro 5 p.code.length ((p.code).map eIns)] 26), (102, .cells (cat [.v (.slice none 0 0), .v (.int .i64 0)] (cat (arrA aU 8 (fun _ => 0)) [.v (.slice none 0 0)])) 34), (503, .row 1 5 (((one_s p inp pl regs ms os).2.2.2.1).length) (((one_s p inp pl regs ms os).2.2.2.1).map eb)), (501, .cells (cat [.v (.int .i64 p.mem), .v (.int .i64 p.stack), .v (.int .i64 p.input), .ro 1 p.data.length ((p.data).map eb), .ro 1 p.funs.length ((p.funs).map ei), .ro 5 p.code.length ((p.code).map eIns), .ro 1 inp.length ((inp).map eb), .v (.int .i64 ((one_s p inp pl regs ms os).2.1))] (cat (arrA aU 8 ((one_s p inp pl regs ms os).2.2.1)) [.own 503, .own 505])) 61), (510, .cells (cat [.own 152, .v (.int .i64 ((one_s p inp pl regs ms os).1))] (cat (arrA aU 8 (fun _ => 0)) [.v (.slice none 0 0)])) 34), (152, .row 1 3 ((path ++ ([(one_s p inp pl regs ms os).2.1] : List Int)).length) ((path ++ ([(one_s p inp pl regs ms os).2.1] : List Int)).map ei))]) (todo' := headAt Try.f10 0) Try.func10 mixed 400 [(9000, .b true), (10001, .call [501, 503, 504] [(501, some (.cells (cat [.v (.int .i64 p.mem), .v (.int .i64 p.stack), .v (.int .i64 p.input), .ro 1 p.data.length ((p.data).map eb), .ro 1 p.funs.length ((p.funs).map ei), .ro 5 p.code.length ((p.code).map eIns), .ro 1 inp.length ((inp).map eb), .v (.int .i64 ((one_s p inp pl regs ms os).2.1))] (cat (arrA aU 8 ((one_s p inp pl regs ms os).2.2.1)) [.own 503, .own 505])) 61)), (503, some (.row 1 5 (((one_s p inp pl regs ms os).2.2.2.1).length) (((one_s p inp pl regs ms os).2.2.2.1).map eb))), (504, none), (505, some (.row 1 3 (((one_s p inp pl regs ms os).2.2.2.2).length) (((one_s p inp pl regs ms os).2.2.2.2).map ei)))] (.v (.int .i64 ((one_s p inp pl regs ms os).1)))), (11002, .b false), (12007, .app 151 (([(one_s p inp pl regs ms os).2.1] : List Int).length) (([(one_s p inp pl regs ms os).2.1] : List Int).map ei)), (12008, .app 152 ((path ++ ([(one_s p inp pl regs ms os).2.1] : List Int)).length) ((path ++ ([(one_s p inp pl regs ms os).2.1] : List Int)).map ei)), (13000, .as_ (.v (.int .i64 (k + 1))))] (.cons h9000 (all8 (one_ok p inp pl regs ms os hv hn i2 i3) h11002 (And.intro (Eq.refl (([(one_s p inp pl regs ms os).2.1] : List Int).map ei)) (Eq.refl (([(one_s p inp pl regs ms os).2.1] : List Int).length))) (oneE ei (fun _ => rfl) ([(one_s p inp pl regs ms os).2.1] : List Int)) (show (path.length + ([(one_s p inp pl regs ms os).2.1] : List Int).length) * 8 ≤ 140737488355328 by (first | omega | (simp only [List.length_append, List.length_cons, List.length_nil, List.length_map, List.length_take, List.length_drop, List.length_replicate, maxLen] <;> omega))) (show path.length + ([(one_s p inp pl regs ms os).2.1] : List Int).length ≤ maxLen by (first | omega | (simp only [List.length_append, List.length_cons, List.length_nil, List.length_map, List.length_take, List.length_drop, List.length_replicate, maxLen] <;> omega))) (appE ei path ([(one_s p inp pl regs ms os).2.1] : List Int)) (wr64 (x := k + 1) (by omega)))) (by kernel_rfl) ?_
        refine Good.ren 505 504 (by kernel_rfl) ?_
        refine Good.ren 152 511 (by kernel_rfl) ?_
        exact Good.cast (by kernel_rfl) (by kernel_rfl) (ih (k + 1) ((one_s p inp pl regs ms os).2.1) ((one_s p inp pl regs ms os).2.2.1) ((one_s p inp pl regs ms os).2.2.2.1) ((one_s p inp pl regs ms os).2.2.2.2) ((one_s p inp pl regs ms os).1) (path ++ ([(one_s p inp pl regs ms os).2.1] : List Int)) (by omega) (by first | exact start_len p | exact Nat.le_trans (Nat.le_of_eq (one_len hv i3).1) i2) (by first | exact Nat.zero_le _ | exact (one_len hv i3).2) (by first | rfl | (rw [List.length_append]; simp only [List.length_cons, List.length_nil]; omega)) (by first | assumption | exact enc_valid hp hI p2001) (by omega))
      · have p11002 := bne_iff_ne.1 h11002
        refine good_head (T := [(6, .ptr 102 0), (7, .v (.int .i64 0)), (10, .ptr 501 0), (11, .ptr 510 0)]) (H := [(101, .cells [.v (.int .i64 p.mem), .v (.int .i64 p.stack), .v (.int .i64 p.input), .ro 1 p.data.length ((p.data).map eb), .ro 1 p.funs.length ((p.funs).map ei), .ro 5 p.code.length ((p.code).map eIns)] 26), (102, .cells (cat [.v (.slice none 0 0), .v (.int .i64 0)] (cat (arrA aU 8 (fun _ => 0)) [.v (.slice none 0 0)])) 34), (503, .row 1 5 (((one_s p inp pl regs ms os).2.2.2.1).length) (((one_s p inp pl regs ms os).2.2.2.1).map eb)), (501, .cells (cat [.v (.int .i64 p.mem), .v (.int .i64 p.stack), .v (.int .i64 p.input), .ro 1 p.data.length ((p.data).map eb), .ro 1 p.funs.length ((p.funs).map ei), .ro 5 p.code.length ((p.code).map eIns), .ro 1 inp.length ((inp).map eb), .v (.int .i64 ((one_s p inp pl regs ms os).2.1))] (cat (arrA aU 8 ((one_s p inp pl regs ms os).2.2.1)) [.own 503, .own 505])) 61), (510, .cells (cat [.own 511, .v (.int .i64 ((one_s p inp pl regs ms os).1))] (cat (arrA aU 8 (fun _ => 0)) [.v (.slice none 0 0)])) 34), (511, .row 1 3 path.length ((path).map ei)), (505, .row 1 3 (((one_s p inp pl regs ms os).2.2.2.2).length) (((one_s p inp pl regs ms os).2.2.2.2).map ei))]) (todo' := cutAt Try.f10 14) Try.func10 mixed 400 [(9000, .b true), (10001, .call [501, 503, 504] [(501, some (.cells (cat [.v (.int .i64 p.mem), .v (.int .i64 p.stack), .v (.int .i64 p.input), .ro 1 p.data.length ((p.data).map eb), .ro 1 p.funs.length ((p.funs).map ei), .ro 5 p.code.length ((p.code).map eIns), .ro 1 inp.length ((inp).map eb), .v (.int .i64 ((one_s p inp pl regs ms os).2.1))] (cat (arrA aU 8 ((one_s p inp pl regs ms os).2.2.1)) [.own 503, .own 505])) 61)), (503, some (.row 1 5 (((one_s p inp pl regs ms os).2.2.2.1).length) (((one_s p inp pl regs ms os).2.2.2.1).map eb))), (504, none), (505, some (.row 1 3 (((one_s p inp pl regs ms os).2.2.2.2).length) (((one_s p inp pl regs ms os).2.2.2.2).map ei)))] (.v (.int .i64 ((one_s p inp pl regs ms os).1)))), (11002, .b true), (14999, .b true)] (all3 h9000 (one_ok p inp pl regs ms os hv hn i2 i3) h11002) (by kernel_rfl) ?_
        refine Good.ren 505 504 (by kernel_rfl) ?_
        exact Good.cast (by kernel_rfl) (by kernel_rfl) (run_c14ok p inp steps hp hI hn ((one_s p inp pl regs ms os).2.1) ((one_s p inp pl regs ms os).2.2.1) ((one_s p inp pl regs ms os).2.2.2.1) ((one_s p inp pl regs ms os).2.2.2.2) ((one_s p inp pl regs ms os).1) path )
def run_s (p : Img) (inp : List Int) (steps : Int) : List Int × Int × (Nat → Int) × List Int × Int := (bif ((encode_s p).2) != (0 : Int) then (([] : List Int), (0 : Int), (fun _ => 0), ([] : List Int), (encode_s p).2) else (bif decide ((inp.length : Int) > p.input) then (([] : List Int), (0 : Int), (fun _ => 0), ([] : List Int), (16 : Int)) else (run_l0 p inp steps ((max 0 (min steps 4096) - ((0) : Int)).toNat + 1) 0 0 ((start_s p).1) ((start_s p).2) ([] : List Int) 0 ([0] : List Int))))
set_option maxRecDepth 100000 in
theorem run_ok (p : Img) (inp : List Int) (steps : Int) (hp : Small p) (hI : ImmOk p) (hn : inp.length < 2 ^ 40) : Ok Try.prog 10 [.agg [.v (.int .i64 p.mem), .v (.int .i64 p.stack), .v (.int .i64 p.input), .ro 1 p.data.length ((p.data).map eb), .ro 1 p.funs.length ((p.funs).map ei), .ro 5 p.code.length ((p.code).map eIns)], .ro 1 inp.length ((inp).map eb), .v (.int .i64 steps)] (look []) (.tup [.agg (cat [.ro 1 (((run_s p inp steps).1).length) (((run_s p inp steps).1).map ei), .v (.int .i64 ((run_s p inp steps).2.1))] (cat (arrA aU 8 ((run_s p inp steps).2.2.1)) [.ro 1 (((run_s p inp steps).2.2.2.1).length) (((run_s p inp steps).2.2.2.1).map eb)])), .v (.int .i64 ((run_s p inp steps).2.2.2.2))]) (postOf [] []) := by
  unfold run_s
  have := hp.1; have := hp.2.1; have := hp.2.2
  cases h2001 : (((encode_s p).2) != (0 : Int))
  · have p2001 := bne_eq_false_iff_eq.1 h2001
    cases h4004 : (decide ((inp.length : Int) > p.input))
    · have p4004 := of_decide_eq_false h4004
      refine ok_head (T := [(6, .ptr 102 0), (7, .v (.int .i64 0)), (10, .ptr 501 0), (11, .ptr 510 0), (37, .v (.int .i64 (max 0 (min steps 4096)))), (38, .v (.int .i64 0))]) (H := [(101, .cells [.v (.int .i64 p.mem), .v (.int .i64 p.stack), .v (.int .i64 p.input), .ro 1 p.data.length ((p.data).map eb), .ro 1 p.funs.length ((p.funs).map ei), .ro 5 p.code.length ((p.code).map eIns)] 26), (102, .cells (cat [.v (.slice none 0 0), .v (.int .i64 0)] (cat (arrA aU 8 (fun _ => 0)) [.v (.slice none 0 0)])) 34), (503, .row 1 5 (((start_s p).2).length) (((start_s p).2).map eb)), (501, .cells (cat [.v (.int .i64 p.mem), .v (.int .i64 p.stack), .v (.int .i64 p.input), .ro 1 p.data.length ((p.data).map eb), .ro 1 p.funs.length ((p.funs).map ei), .ro 5 p.code.length ((p.code).map eIns), .ro 1 inp.length ((inp).map eb), .v (.int .i64 0)] (cat (arrA aU 8 ((start_s p).1)) [.own 503, .v (.slice none 0 0)])) 61), (510, .cells (cat [.own 103, .v (.int .i64 0)] (cat (arrA aU 8 (fun _ => 0)) [.v (.slice none 0 0)])) 34), (103, .row 1 3 (([0] : List Int).length) (([0] : List Int).map ei))]) (todo := headAt Try.f10 0) Try.func10 rfl rfl mixed 400 [(0, .nm 101), (1, .nm 102), (1001, .call [] [] (.tup [.ro 1 (((encode_s p).1).length) (((encode_s p).1).map eb), .v (.int .i64 ((encode_s p).2))])), (2001, .b false), (4004, .b false), (6003, .call [] [(503, some (.row 1 5 (((start_s p).2).length) (((start_s p).2).map eb)))] (.agg (cat [.v (.int .i64 0)] (cat (arrA aU 8 ((start_s p).1)) [.own 503, .v (.slice none 0 0)])))), (6005, .nm 501), (7000, .app 103 (([0] : List Int).length) (([0] : List Int).map ei)), (7002, .nm 510), (8001, .as_ (.v (.int .i64 (min steps 4096)))), (8002, .as_ (.v (.int .i64 (max 0 (min steps 4096)))))] (all7 (encode_ok p hp) h2001 h4004 (start_ok p hp) (And.intro (Eq.refl (([0] : List Int).map ei)) (Eq.refl (([0] : List Int).length))) (minE .i64 steps 4096) (maxE .i64 0 (min steps 4096))) (by kernel_rfl) ?_
      refine Good.ren 103 511 (by kernel_rfl) ?_
      refine Good.namedH 504 501 17 1 3 (by decide) (by kernel_rfl) ?_
      exact Good.cast (by kernel_rfl) (by kernel_rfl) (run_lok0 p inp steps hp hI hn _ 0 0 ((start_s p).1) ((start_s p).2) ([] : List Int) 0 ([0] : List Int) (by omega) (by first | exact start_len p | exact Nat.le_trans (Nat.le_of_eq (one_len hv i3).1) i2) (by first | exact Nat.zero_le _ | exact (one_len hv i3).2) (by first | rfl | (rw [List.length_append]; simp only [List.length_cons, List.length_nil]; omega)) (by first | assumption | exact enc_valid hp hI p2001) (Nat.lt_succ_self _))
    · have p4004 := of_decide_eq_true h4004
      refine Ok.le (res := .tup [.agg (cat [.v (.slice none 0 0), .v (.int .i64 0)] (cat (arrA aU 8 (fun _ => 0)) [.v (.slice none 0 0)])), .v (.int .i64 16)]) ?_ (by repeat (first | exact LeA.refl _ | exact LeA.nil _ | exact LeL.nil | apply LeA.tup | apply LeA.agg | apply LeA.vagg | apply LeL.cons | apply LeA.ifc))
      exact ok_run Try.func10 rfl rfl mixed 400 [(0, .nm 101), (1, .nm 102), (1001, .call [] [] (.tup [.ro 1 (((encode_s p).1).length) (((encode_s p).1).map eb), .v (.int .i64 ((encode_s p).2))])), (2001, .b false), (4004, .b true)] (all3 (encode_ok p hp) h2001 h4004) (by kernel_rfl)
  · have p2001 := bne_iff_ne.1 h2001
    refine Ok.le (res := .tup [.agg (cat [.v (.slice none 0 0), .v (.int .i64 0)] (cat (arrA aU 8 (fun _ => 0)) [.v (.slice none 0 0)])), .v (.int .i64 ((encode_s p).2))]) ?_ (by repeat (first | exact LeA.refl _ | exact LeA.nil _ | exact LeL.nil | apply LeA.tup | apply LeA.agg | apply LeA.vagg | apply LeL.cons | apply LeA.ifc))
    exact ok_run Try.func10 rfl rfl mixed 400 [(0, .nm 101), (1, .nm 102), (1001, .call [] [] (.tup [.ro 1 (((encode_s p).1).length) (((encode_s p).1).map eb), .v (.int .i64 ((encode_s p).2))])), (2001, .b true)] (all2 (encode_ok p hp) h2001) (by kernel_rfl)

theorem run_l0_len (p : Img) (inp : List Int) (steps : Int) : ∀ (m : Nat) (k pl : Int) (regs : Nat → Int) (ms os : List Int) (en : Int) (path : List Int), (path.length : Int) = k + 1 → 0 ≤ k → k ≤ max 0 (min steps 4096) → (max 0 (min steps 4096) - k).toNat < m → ((run_l0 p inp steps m k pl regs ms os en path).1.length : Int) ≤ max 0 (min steps 4096) + 1 := by
  intro m
  induction m with
  | zero => intro k pl regs ms os en path _ _ _ hm; exact absurd hm (Nat.not_lt_zero _)
  | succ m ih =>
    intro k pl regs ms os en path hl hk hk2 hm
    rw [run_l0]
    refine bifP (P := fun r : List Int × Int × (Nat → Int) × List Int × Int => (r.1.length : Int) ≤ max 0 (min steps 4096) + 1) (fun h => ?_) (fun _ => ?_)
    · have h := of_decide_eq_true h
      refine bifP (P := fun r : List Int × Int × (Nat → Int) × List Int × Int => (r.1.length : Int) ≤ max 0 (min steps 4096) + 1) (fun _ => ?_) (fun _ => ?_)
      · show (path.length : Int) ≤ _; omega
      · exact ih _ _ _ _ _ _ _ (by rw [List.length_append]; simp only [List.length_cons, List.length_nil]; omega) (by omega) (by omega) (by omega)
    · show (path.length : Int) ≤ _; omega
theorem run_len (p : Img) (inp : List Int) (steps : Int) : ((run_s p inp steps).1.length : Int) ≤ max 0 (min steps 4096) + 1 := by
  unfold run_s
  refine bifP (P := fun r : List Int × Int × (Nat → Int) × List Int × Int => (r.1.length : Int) ≤ max 0 (min steps 4096) + 1) (fun h => ?_) (fun _ => bifP (P := fun r : List Int × Int × (Nat → Int) × List Int × Int => (r.1.length : Int) ≤ max 0 (min steps 4096) + 1) (fun _ => ?_) fun _ => ?_)
  · show (0 : Int) ≤ _; omega
  · show (0 : Int) ≤ _; omega
  · exact run_l0_len p inp steps _ _ _ _ _ _ _ _ rfl (by omega) (by omega) (by omega)

def idxi_l0 (l : List Int) (v : Int) : Nat → Int → Int
  | 0, _ => default
  | m + 1, i => (bif decide (i < (l.length : Int)) then (bif v == (l.getD ((i).toNat) 0) then i else (idxi_l0 l v m (i + 1))) else (-1 : Int))
set_option maxRecDepth 100000 in
theorem idxi_lok0 (l : List Int) (v : Int) (h0 : l.length < 2 ^ 40) : ∀ (m : Nat) (i : Int), (0 ≤ i) → (i ≤ l.length) → l.length - (i : Int).toNat < m → Good Try.prog 21 Try.f21.ntmps (look []) false (.v (.int .i64 (idxi_l0 l v m i))) (postOf [] []) (headAt Try.f21 0) [(0, .ro 1 l.length ((l).map ei)), (1, .v (.int .i64 v)), (4, .v (.int .i64 0)), (7, .v (.int .i64 (l.length : Int))), (8, .v (.int .i64 i))] [] := by
  intro m
  induction m with
  | zero => intro i i1 i2 hm; exact absurd hm (Nat.not_lt_zero _)
  | succ m ih =>
    intro i i1 i2 hm
    rw [idxi_l0]
    cases h2000 : (decide (i < (l.length : Int)))
    · have p2000 := of_decide_eq_false h2000
      exact good_run Try.func21 mixed 400 [(2000, .b false)] (all1 h2000) (by kernel_rfl)
    · have p2000 := of_decide_eq_true h2000
      cases h4005 : (v == (l.getD ((i).toNat) 0))
      · have p4005 := ne_of_beq_false h4005
        refine good_head (T := [(0, .ro 1 l.length ((l).map ei)), (1, .v (.int .i64 v)), (4, .v (.int .i64 0)), (7, .v (.int .i64 (l.length : Int))), (8, .v (.int .i64 (i + 1)))]) (H := []) (todo' := headAt Try.f21 0) Try.func21 mixed 400 [(2000, .b true), (4003, .el (ei (l.getD ((i).toNat) 0))), (4005, .b false), (6000, .as_ (.v (.int .i64 (i + 1))))] (all5 h2000 (show (0 : Int) ≤ i by omega) (getg (l := l) (n := (i).toNat) ei 0 (by omega)) h4005 (wr64 (x := i + 1) (by omega))) (by kernel_rfl) ?_
        exact ih (i + 1) (by omega) (by omega) (by omega)
      · have p4005 := eq_of_beq h4005
        exact good_run Try.func21 mixed 400 [(2000, .b true), (4003, .el (ei (l.getD ((i).toNat) 0))), (4005, .b true)] (all4 h2000 (show (0 : Int) ≤ i by omega) (getg (l := l) (n := (i).toNat) ei 0 (by omega)) h4005) (by kernel_rfl)
def idxi_s (l : List Int) (v : Int) : Int := (idxi_l0 l v (l.length - ((0) : Int).toNat + 1) 0)
set_option maxRecDepth 100000 in
theorem idxi_ok (l : List Int) (v : Int) (h0 : l.length < 2 ^ 40) : Ok Try.prog 21 [.ro 1 l.length ((l).map ei), .v (.int .i64 v)] (look []) (.v (.int .i64 (idxi_s l v))) (postOf [] []) := by
  unfold idxi_s
  refine ok_head (T := [(0, .ro 1 l.length ((l).map ei)), (1, .v (.int .i64 v)), (4, .v (.int .i64 0)), (7, .v (.int .i64 (l.length : Int))), (8, .v (.int .i64 0))]) (H := []) (todo := headAt Try.f21 0) Try.func21 rfl rfl mixed 400 [] (all0) (by kernel_rfl) ?_
  exact idxi_lok0 l v h0 _ 0 (by omega) (by omega) (Nat.lt_succ_self _)

def first_l0 (l : List Int) (v : Int) : Nat → Int → Int
  | 0, _ => default
  | m + 1, i => (bif decide (i < (l.length : Int)) then (bif (l.getD ((i).toNat) 0) == v then i else (first_l0 l v m (i + 1))) else (-1 : Int))
set_option maxRecDepth 100000 in
theorem first_lok0 (l : List Int) (v : Int) (h0 : l.length < 2 ^ 40) : ∀ (m : Nat) (i : Int), (0 ≤ i) → (i ≤ l.length) → l.length - (i : Int).toNat < m → Good Try.prog 11 Try.f11.ntmps (look []) false (.v (.int .i64 (first_l0 l v m i))) (postOf [] []) (headAt Try.f11 0) [(0, .ro 1 l.length ((l).map ei)), (1, .v (.int .i64 v)), (4, .v (.int .i64 0)), (5, .v (.int .i64 i))] [] := by
  intro m
  induction m with
  | zero => intro i i1 i2 hm; exact absurd hm (Nat.not_lt_zero _)
  | succ m ih =>
    intro i i1 i2 hm
    rw [first_l0]
    cases h2003 : (decide (i < (l.length : Int)))
    · have p2003 := of_decide_eq_false h2003
      exact good_run Try.func11 mixed 400 [(2003, .b false)] (all1 h2003) (by kernel_rfl)
    · have p2003 := of_decide_eq_true h2003
      cases h4005 : ((l.getD ((i).toNat) 0) == v)
      · have p4005 := ne_of_beq_false h4005
        refine good_head (T := [(0, .ro 1 l.length ((l).map ei)), (1, .v (.int .i64 v)), (4, .v (.int .i64 0)), (5, .v (.int .i64 (i + 1)))]) (H := []) (todo' := headAt Try.f11 0) Try.func11 mixed 400 [(2003, .b true), (4002, .el (ei (l.getD ((i).toNat) 0))), (4005, .b false), (3001, .as_ (.v (.int .i64 (i + 1))))] (all5 h2003 (show (0 : Int) ≤ i by omega) (getg (l := l) (n := (i).toNat) ei 0 (by omega)) h4005 (wr64 (x := i + 1) (by omega))) (by kernel_rfl) ?_
        exact ih (i + 1) (by omega) (by omega) (by omega)
      · have p4005 := eq_of_beq h4005
        exact good_run Try.func11 mixed 400 [(2003, .b true), (4002, .el (ei (l.getD ((i).toNat) 0))), (4005, .b true)] (all4 h2003 (show (0 : Int) ≤ i by omega) (getg (l := l) (n := (i).toNat) ei 0 (by omega)) h4005) (by kernel_rfl)
def first_s (l : List Int) (v : Int) : Int := (first_l0 l v (l.length - ((0) : Int).toNat + 1) 0)
set_option maxRecDepth 100000 in
theorem first_ok (l : List Int) (v : Int) (h0 : l.length < 2 ^ 40) : Ok Try.prog 11 [.ro 1 l.length ((l).map ei), .v (.int .i64 v)] (look []) (.v (.int .i64 (first_s l v))) (postOf [] []) := by
  unfold first_s
  refine ok_head (T := [(0, .ro 1 l.length ((l).map ei)), (1, .v (.int .i64 v)), (4, .v (.int .i64 0)), (5, .v (.int .i64 0))]) (H := []) (todo := headAt Try.f11 0) Try.func11 rfl rfl mixed 400 [] (all0) (by kernel_rfl) ?_
  exact first_lok0 l v h0 _ 0 (by omega) (by omega) (Nat.lt_succ_self _)

def reach_s (p : Img) (inp : List Int) (target steps : Int) : Int × Bool := (bif ((run_s p inp steps).2.2.2.2) != (0 : Int) then ((0 : Int), false) else ((max (idxi_s ((run_s p inp steps).1) target) 0), decide ((idxi_s ((run_s p inp steps).1) target) ≥ (0 : Int))))
set_option maxRecDepth 100000 in
theorem reach_ok (p : Img) (inp : List Int) (target steps : Int) (hp : Small p) (hI : ImmOk p) (hn : inp.length < 2 ^ 40) : Ok Try.prog 9 [.agg [.v (.int .i64 p.mem), .v (.int .i64 p.stack), .v (.int .i64 p.input), .ro 1 p.data.length ((p.data).map eb), .ro 1 p.funs.length ((p.funs).map ei), .ro 5 p.code.length ((p.code).map eIns)], .ro 1 inp.length ((inp).map eb), .v (.int .i64 target), .v (.int .i64 steps)] (look []) (.tup [.v (.int .i64 ((reach_s p inp target steps).1)), .v (.bool ((reach_s p inp target steps).2))]) (postOf [] []) := by
  unfold reach_s
  cases h2001 : (((run_s p inp steps).2.2.2.2) != (0 : Int))
  · have p2001 := bne_eq_false_iff_eq.1 h2001
    exact ok_run Try.func9 rfl rfl mixed 400 [(0, .nm 101), (1003, .call [] [] (.tup [.agg (cat [.ro 1 (((run_s p inp steps).1).length) (((run_s p inp steps).1).map ei), .v (.int .i64 ((run_s p inp steps).2.1))] (cat (arrA aU 8 ((run_s p inp steps).2.2.1)) [.ro 1 (((run_s p inp steps).2.2.2.1).length) (((run_s p inp steps).2.2.2.1).map eb)])), .v (.int .i64 ((run_s p inp steps).2.2.2.2))])), (1007, .nm 102), (2001, .b false), (4003, .call [] [] (.v (.int .i64 (idxi_s ((run_s p inp steps).1) target)))), (5001, .as_ (.v (.int .i64 (max (idxi_s ((run_s p inp steps).1) target) 0))))] (all4 (run_ok p inp steps (by first | assumption | exact few_t (by assumption) | exact few_t (notF (by assumption))) (by assumption) (by omega)) h2001 (idxi_ok ((run_s p inp steps).1) target (by have := run_len p inp steps; omega)) (maxE .i64 (idxi_s ((run_s p inp steps).1) target) 0)) (by kernel_rfl)
  · have p2001 := bne_iff_ne.1 h2001
    exact ok_run Try.func9 rfl rfl mixed 400 [(0, .nm 101), (1003, .call [] [] (.tup [.agg (cat [.ro 1 (((run_s p inp steps).1).length) (((run_s p inp steps).1).map ei), .v (.int .i64 ((run_s p inp steps).2.1))] (cat (arrA aU 8 ((run_s p inp steps).2.2.1)) [.ro 1 (((run_s p inp steps).2.2.2.1).length) (((run_s p inp steps).2.2.2.1).map eb)])), .v (.int .i64 ((run_s p inp steps).2.2.2.2))])), (1007, .nm 102), (2001, .b true)] (all2 (run_ok p inp steps (by first | assumption | exact few_t (by assumption) | exact few_t (notF (by assumption))) (by assumption) (by omega)) h2001) (by kernel_rfl)

def great_s (p : Img) (inp : List Int) (steps : Int) : Bool := (bif !(few_s p) then true else (bif decide ((inp.length : Int) > (40 : Int)) then true else (decide (steps > (300 : Int)))))
set_option maxRecDepth 100000 in
theorem great_ok (p : Img) (inp : List Int) (steps : Int)  : Ok Try.prog 8 [.agg [.v (.int .i64 p.mem), .v (.int .i64 p.stack), .v (.int .i64 p.input), .ro 1 p.data.length ((p.data).map eb), .ro 1 p.funs.length ((p.funs).map ei), .ro 5 p.code.length ((p.code).map eIns)], .ro 1 inp.length ((inp).map eb), .v (.int .i64 steps)] (look []) (.v (.bool (great_s p inp steps))) (postOf [] []) := by
  unfold great_s
  cases h1002 : (!(few_s p))
  · have p1002 := notF h1002
    cases h1006 : (decide ((inp.length : Int) > (40 : Int)))
    · have p1006 := of_decide_eq_false h1006
      exact ok_run Try.func8 rfl rfl mixed 400 [(0, .nm 101), (1001, .call [] [] (.v (.bool (few_s p)))), (1002, .b false), (1006, .b false)] (all3 (few_ok p ) h1002 h1006) (by kernel_rfl)
    · have p1006 := of_decide_eq_true h1006
      exact ok_run Try.func8 rfl rfl mixed 400 [(0, .nm 101), (1001, .call [] [] (.v (.bool (few_s p)))), (1002, .b false), (1006, .b true)] (all3 (few_ok p ) h1002 h1006) (by kernel_rfl)
  · have p1002 := notT h1002
    exact ok_run Try.func8 rfl rfl mixed 400 [(0, .nm 101), (1001, .call [] [] (.v (.bool (few_s p)))), (1002, .b true)] (all2 (few_ok p ) h1002) (by kernel_rfl)

theorem great_f {p : Img} {inp : List Int} {steps : Int} (h : great_s p inp steps = false) : Small p ∧ inp.length ≤ 40 ∧ steps ≤ 300 := by
  unfold great_s at h
  cases h1 : (!few_s p) with
  | true => rw [h1] at h; cases h
  | false =>
    rw [h1] at h
    cases h2 : decide ((inp.length : Int) > 40) with
    | true => rw [h2] at h; cases h
    | false =>
      rw [h2] at h
      have h3 := of_decide_eq_false h2
      have h4 := of_decide_eq_false (show decide (steps > 300) = false from h)
      exact ⟨few_t (notF h1), by omega, by omega⟩
end Go.Proofs.Yteolbecihipcaaa.Sx.M5
