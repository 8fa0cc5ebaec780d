/- What the functions of a chapter compute, as contracts; written by a program of this session. -/
import Derived.Test.YteolbecihipcaaaM20
import Derived.Test.YteolbecihipcaaaSx23
open Go Go.Proofs Go.RowKit
namespace Go.Proofs.Yteolbecihipcaaa.Sx.M5
set_option linter.unusedVariables false
set_option linter.unusedSimpArgs false
def wclo_s (p : Img) (at_ : Int) : Bool := (decide ((fun_s p at_) < (0 : Int)))
set_option maxRecDepth 100000 in
theorem wclo_ok (p : Img) (at_ : Int) (hp : Small p) : Ok Try.prog 42 [.v (.int .i64 at_), .ptr 530 0] (look [(530, .cells [.v (.int .i64 p.mem), .v (.int .i64 p.stack), .v (.int .i64 p.input), .ro 1 p.data.length ((p.data).map eb), .ro 1 p.funs.length ((p.funs).map ei), .ro 5 p.code.length ((p.code).map eIns)] 26)]) (.v (.bool (wclo_s p at_))) (postOf [(530, .cells [.v (.int .i64 p.mem), .v (.int .i64 p.stack), .v (.int .i64 p.input), .ro 1 p.data.length ((p.data).map eb), .ro 1 p.funs.length ((p.funs).map ei), .ro 5 p.code.length ((p.code).map eIns)] 26)] []) := by
  unfold wclo_s
  exact ok_run Try.func42 rfl rfl mixed 400 [(1002, .call [] [] (.v (.int .i64 (fun_s p at_))))] (all1 (fun_ok p at_ hp)) (by kernel_rfl)

def idxw_l0 (p : Img) (l : List Int) : Nat → Int → Int
  | 0, _ => default
  | m + 1, i => (bif decide (i < (l.length : Int)) then (bif wclo_s p (l.getD ((i).toNat) 0) then i else (idxw_l0 p l m (i + 1))) else (-1 : Int))
set_option maxRecDepth 100000 in
theorem idxw_lok0 (p : Img) (l : List Int) (hp : Small p) (hn : l.length < 2 ^ 40) : ∀ (m : Nat) (i : Int), (0 ≤ i) → (i ≤ l.length) → l.length - (i : Int).toNat < m → Good Try.prog 58 Try.f58.ntmps (look [(530, .cells [.v (.int .i64 p.mem), .v (.int .i64 p.stack), .v (.int .i64 p.input), .ro 1 p.data.length ((p.data).map eb), .ro 1 p.funs.length ((p.funs).map ei), .ro 5 p.code.length ((p.code).map eIns)] 26)]) false (.v (.int .i64 (idxw_l0 p l m i))) (postOf [(530, .cells [.v (.int .i64 p.mem), .v (.int .i64 p.stack), .v (.int .i64 p.input), .ro 1 p.data.length ((p.data).map eb), .ro 1 p.funs.length ((p.funs).map ei), .ro 5 p.code.length ((p.code).map eIns)] 26)] []) (headAt Try.f58 0) [(0, .ro 1 l.length ((l).map ei)), (1, .fn (Go.Fn.func 42) [] [.ptr 530 0]), (4, .v (.int .i64 0)), (7, .v (.int .i64 (l.length : Int))), (8, .v (.int .i64 i))] [(530, .cells [.v (.int .i64 p.mem), .v (.int .i64 p.stack), .v (.int .i64 p.input), .ro 1 p.data.length ((p.data).map eb), .ro 1 p.funs.length ((p.funs).map ei), .ro 5 p.code.length ((p.code).map eIns)] 26)] := by
  intro m
  induction m with
  | zero => intro i i1 i2 hm; exact absurd hm (Nat.not_lt_zero _)
  | succ m ih =>
    intro i i1 i2 hm
    rw [idxw_l0]
    cases h2000 : (decide (i < (l.length : Int)))
    · have p2000 := of_decide_eq_false h2000
      exact good_run Try.func58 mixed 400 [(2000, .b false)] (all1 h2000) (by kernel_rfl)
    · have p2000 := of_decide_eq_true h2000
      cases h4005 : (wclo_s p (l.getD ((i).toNat) 0))
      · refine good_head (T := [(0, .ro 1 l.length ((l).map ei)), (1, .fn (Go.Fn.func 42) [] [.ptr 530 0]), (4, .v (.int .i64 0)), (7, .v (.int .i64 (l.length : Int))), (8, .v (.int .i64 (i + 1)))]) (H := [(530, .cells [.v (.int .i64 p.mem), .v (.int .i64 p.stack), .v (.int .i64 p.input), .ro 1 p.data.length ((p.data).map eb), .ro 1 p.funs.length ((p.funs).map ei), .ro 5 p.code.length ((p.code).map eIns)] 26)]) (todo' := headAt Try.f58 0) Try.func58 mixed 400 [(2000, .b true), (4003, .el (ei (l.getD ((i).toNat) 0))), (4005, .two (.call [530] [] (.v (.bool (wclo_s p (l.getD ((i).toNat) 0))))) (.b false)), (6000, .as_ (.v (.int .i64 (i + 1))))] (all6 h2000 (show (0 : Int) ≤ i by omega) (getg (l := l) (n := (i).toNat) ei 0 (by omega)) (wclo_ok p (l.getD ((i).toNat) 0) hp) h4005 (wr64 (x := i + 1) (by omega))) (by kernel_rfl) ?_
        exact ih (i + 1) (by omega) (by omega) (by omega)
      · exact good_run Try.func58 mixed 400 [(2000, .b true), (4003, .el (ei (l.getD ((i).toNat) 0))), (4005, .two (.call [530] [] (.v (.bool (wclo_s p (l.getD ((i).toNat) 0))))) (.b true))] (all5 h2000 (show (0 : Int) ≤ i by omega) (getg (l := l) (n := (i).toNat) ei 0 (by omega)) (wclo_ok p (l.getD ((i).toNat) 0) hp) h4005) (by kernel_rfl)
def idxw_s (p : Img) (l : List Int) : Int := (idxw_l0 p l (l.length - ((0) : Int).toNat + 1) 0)
set_option maxRecDepth 100000 in
theorem idxw_ok (p : Img) (l : List Int) (hp : Small p) (hn : l.length < 2 ^ 40) : Ok Try.prog 58 [.ro 1 l.length ((l).map ei), .fn (Go.Fn.func 42) [] [.ptr 530 0]] (look [(530, .cells [.v (.int .i64 p.mem), .v (.int .i64 p.stack), .v (.int .i64 p.input), .ro 1 p.data.length ((p.data).map eb), .ro 1 p.funs.length ((p.funs).map ei), .ro 5 p.code.length ((p.code).map eIns)] 26)]) (.v (.int .i64 (idxw_s p l))) (postOf [(530, .cells [.v (.int .i64 p.mem), .v (.int .i64 p.stack), .v (.int .i64 p.input), .ro 1 p.data.length ((p.data).map eb), .ro 1 p.funs.length ((p.funs).map ei), .ro 5 p.code.length ((p.code).map eIns)] 26)] []) := by
  unfold idxw_s
  refine ok_head (T := [(0, .ro 1 l.length ((l).map ei)), (1, .fn (Go.Fn.func 42) [] [.ptr 530 0]), (4, .v (.int .i64 0)), (7, .v (.int .i64 (l.length : Int))), (8, .v (.int .i64 0))]) (H := [(530, .cells [.v (.int .i64 p.mem), .v (.int .i64 p.stack), .v (.int .i64 p.input), .ro 1 p.data.length ((p.data).map eb), .ro 1 p.funs.length ((p.funs).map ei), .ro 5 p.code.length ((p.code).map eIns)] 26)]) (todo := headAt Try.f58 0) Try.func58 rfl rfl mixed 400 [] (all0) (by kernel_rfl) ?_
  exact idxw_lok0 p l hp hn _ 0 (by omega) (by omega) (Nat.lt_succ_self _)

def conw_s (p : Img) (l : List Int) : Bool := (decide ((idxw_s p l) ≥ (0 : Int)))
set_option maxRecDepth 100000 in
theorem conw_ok (p : Img) (l : List Int) (hp : Small p) (hn : l.length < 2 ^ 40) : Ok Try.prog 41 [.ro 1 l.length ((l).map ei), .fn (Go.Fn.func 42) [] [.ptr 530 0]] (look [(530, .cells [.v (.int .i64 p.mem), .v (.int .i64 p.stack), .v (.int .i64 p.input), .ro 1 p.data.length ((p.data).map eb), .ro 1 p.funs.length ((p.funs).map ei), .ro 5 p.code.length ((p.code).map eIns)] 26)]) (.v (.bool (conw_s p l))) (postOf [(530, .cells [.v (.int .i64 p.mem), .v (.int .i64 p.stack), .v (.int .i64 p.input), .ro 1 p.data.length ((p.data).map eb), .ro 1 p.funs.length ((p.funs).map ei), .ro 5 p.code.length ((p.code).map eIns)] 26)] []) := by
  unfold conw_s
  exact ok_run Try.func41 rfl rfl mixed 400 [(1002, .call [530] [] (.v (.int .i64 (idxw_s p l))))] (all1 (idxw_ok p l hp hn)) (by kernel_rfl)

def whole_s (p : Img) (pl : Int) (regs : Nat → Int) (mem os : List Int) : Bool := (bif ((encode_s p).2) != (0 : Int) then false else (bif (mem.length : Int) != p.mem then false else (bif decide ((os.length : Int) > p.stack) then false else (!(conw_s p (([pl] : List Int) ++ os))))))
set_option maxRecDepth 100000 in
theorem whole_ok (p : Img) (pl : Int) (regs : Nat → Int) (mem os : List Int) (hp : Small p) (ho : os.length < 2 ^ 39) : Ok Try.prog 26 [.agg [.v (.int .i64 p.mem), .v (.int .i64 p.stack), .v (.int .i64 p.input), .ro 1 p.data.length ((p.data).map eb), .ro 1 p.funs.length ((p.funs).map ei), .ro 5 p.code.length ((p.code).map eIns)], .agg (cat [.v (.int .i64 pl)] (cat (arrA aU 8 regs) [.ro 1 mem.length ((mem).map eb), .ro 1 os.length ((os).map ei)]))] (look []) (.v (.bool (whole_s p pl regs mem os))) (postOf [] []) := by
  unfold whole_s
  cases h2001 : (((encode_s p).2) != (0 : Int))
  · have p2001 := bne_eq_false_iff_eq.1 h2001
    cases h2008 : ((mem.length : Int) != p.mem)
    · have p2008 := bne_eq_false_iff_eq.1 h2008
      cases h2016 : (decide ((os.length : Int) > p.stack))
      · have p2016 := of_decide_eq_false h2016
        exact ok_run Try.func26 rfl rfl mixed 400 [(0, .nm 530), (1, .nm 101), (1001, .call [] [] (.tup [.ro 1 (((encode_s p).1).length) (((encode_s p).1).map eb), .v (.int .i64 ((encode_s p).2))])), (2001, .b false), (2008, .b false), (2016, .b false), (4002, .app 102 (([pl] : List Int).length) (([pl] : List Int).map ei)), (4005, .app 103 ((([pl] : List Int) ++ os).length) ((([pl] : List Int) ++ os).map ei)), (4007, .call [103, 530] [(103, none)] (.v (.bool (conw_s p (([pl] : List Int) ++ os)))))] (.cons (encode_ok p hp) (.cons h2001 (all8 h2008 h2016 (And.intro (Eq.refl (([pl] : List Int).map ei)) (Eq.refl (([pl] : List Int).length))) (oneE ei (fun _ => rfl) os) (show (([pl] : List Int).length + os.length) * 8 ≤ 140737488355328 by (first | omega | (simp only [List.length_append, List.length_cons, List.length_nil, List.length_map, List.length_take, List.length_drop, List.length_replicate, maxLen] <;> omega))) (show ([pl] : List Int).length + os.length ≤ maxLen by (first | omega | (simp only [List.length_append, List.length_cons, List.length_nil, List.length_map, List.length_take, List.length_drop, List.length_replicate, maxLen] <;> omega))) (appE ei ([pl] : List Int) os) (Ok.eatC (args := [.own 103, .fn (Go.Fn.func 42) [] [.ptr 530 0]]) (n := 103) (m := 530) (e := 3) (sz := 1) (k := ((([pl] : List Int) ++ os).length)) (rows := ((([pl] : List Int) ++ os).map ei)) (conw_ok p (([pl] : List Int) ++ os) hp (by (first | (first | omega | (simp only [List.length_set, List.length_append, List.length_cons, List.length_nil, List.length_map, List.length_take, List.length_drop, List.length_replicate] <;> omega) | (simp only [List.length_set, List.length_append, List.length_cons, List.length_nil, List.length_map, List.length_take, List.length_drop, List.length_replicate] at * <;> omega)) | (simp only [wrap_u64] at * <;> omega)))) rfl rfl rfl)))) (by kernel_rfl)
      · have p2016 := of_decide_eq_true h2016
        exact ok_run Try.func26 rfl rfl mixed 400 [(0, .nm 530), (1, .nm 101), (1001, .call [] [] (.tup [.ro 1 (((encode_s p).1).length) (((encode_s p).1).map eb), .v (.int .i64 ((encode_s p).2))])), (2001, .b false), (2008, .b false), (2016, .b true)] (all4 (encode_ok p hp) h2001 h2008 h2016) (by kernel_rfl)
    · have p2008 := bne_iff_ne.1 h2008
      exact ok_run Try.func26 rfl rfl mixed 400 [(0, .nm 530), (1, .nm 101), (1001, .call [] [] (.tup [.ro 1 (((encode_s p).1).length) (((encode_s p).1).map eb), .v (.int .i64 ((encode_s p).2))])), (2001, .b false), (2008, .b true)] (all3 (encode_ok p hp) h2001 h2008) (by kernel_rfl)
  · have p2001 := bne_iff_ne.1 h2001
    exact ok_run Try.func26 rfl rfl mixed 400 [(0, .nm 530), (1, .nm 101), (1001, .call [] [] (.tup [.ro 1 (((encode_s p).1).length) (((encode_s p).1).map eb), .v (.int .i64 ((encode_s p).2))])), (2001, .b true)] (all2 (encode_ok p hp) h2001) (by kernel_rfl)

theorem whole_t {p : Img} {pl : Int} {regs : Nat → Int} {mem os : List Int} (h : whole_s p pl regs mem os = true) : (encode_s p).2 = 0 ∧ (mem.length : Int) = p.mem ∧ (os.length : Int) ≤ p.stack ∧ conw_s p ([pl] ++ os) = false := by
  unfold whole_s at h
  rcases bifT h with ⟨_, h⟩ | ⟨h1, h⟩
  · cases h
  rcases bifT h with ⟨_, h⟩ | ⟨h2, h⟩
  · cases h
  rcases bifT h with ⟨_, h⟩ | ⟨h3, h⟩
  · cases h
  exact ⟨by simpa using h1, by simpa using h2, by have := of_decide_eq_false h3; omega, notT h⟩

set_option maxRecDepth 100000 in
theorem cloB_ok (l : List Int) (h0 : l.length < 2 ^ 40) : Ok Try.prog 27 [.ro 1 l.length ((l).map eb)] (look []) (.own 503) (postOf [] [(503, .row 1 5 l.length ((l).map eb))]) := by
  refine Ok.nilOr (fun hr _ => ?_) ?_
  · have hb : l = [] := List.map_eq_nil_iff.1 hr
    subst hb
    refine Ok.nilOwn 503 1 5 (by decide) ?_
    exact ok_run Try.func27 rfl rfl mixed 400 [] (all0) (by kernel_rfl)
  · exact ok_run (ch := [(503, .row 1 5 l.length ((l).map eb))]) Try.func27 rfl rfl mixed 400 [(3000, .app 101 (([] : List Int).length) (([] : List Int).map eb)), (3002, .app 503 ((([] : List Int) ++ l).length) ((([] : List Int) ++ l).map eb))] (all5 (And.intro (Eq.refl (([] : List Int).map eb)) (Eq.refl (([] : List Int).length))) (oneE eb (fun _ => rfl) l) (show (([] : List Int).length + l.length) * 1 ≤ 140737488355328 by (first | omega | (simp only [List.length_append, List.length_cons, List.length_nil, List.length_map, List.length_take, List.length_drop, List.length_replicate, maxLen] <;> omega))) (show ([] : List Int).length + l.length ≤ maxLen by (first | omega | (simp only [List.length_append, List.length_cons, List.length_nil, List.length_map, List.length_take, List.length_drop, List.length_replicate, maxLen] <;> omega))) (appE eb ([] : List Int) l)) (by kernel_rfl)

set_option maxRecDepth 100000 in
theorem cloI_ok (l : List Int) (h0 : l.length < 2 ^ 40) : Ok Try.prog 28 [.ro 1 l.length ((l).map ei)] (look []) (.own 504) (postOf [] [(504, .row 1 3 l.length ((l).map ei))]) := by
  refine Ok.nilOr (fun hr _ => ?_) ?_
  · have hb : l = [] := List.map_eq_nil_iff.1 hr
    subst hb
    refine Ok.nilOwn 504 1 3 (by decide) ?_
    exact ok_run Try.func28 rfl rfl mixed 400 [] (all0) (by kernel_rfl)
  · exact ok_run (ch := [(504, .row 1 3 l.length ((l).map ei))]) Try.func28 rfl rfl mixed 400 [(3000, .app 101 (([] : List Int).length) (([] : List Int).map ei)), (3002, .app 504 ((([] : List Int) ++ l).length) ((([] : List Int) ++ l).map ei))] (all5 (And.intro (Eq.refl (([] : List Int).map ei)) (Eq.refl (([] : List Int).length))) (oneE ei (fun _ => rfl) l) (show (([] : List Int).length + l.length) * 8 ≤ 140737488355328 by (first | omega | (simp only [List.length_append, List.length_cons, List.length_nil, List.length_map, List.length_take, List.length_drop, List.length_replicate, maxLen] <;> omega))) (show ([] : List Int).length + l.length ≤ maxLen by (first | omega | (simp only [List.length_append, List.length_cons, List.length_nil, List.length_map, List.length_take, List.length_drop, List.length_replicate, maxLen] <;> omega))) (appE ei ([] : List Int) l)) (by kernel_rfl)

def step_c5 (p : Img) (inp : List Int) (pl : Int) (regs : Nat → Int) (mem os : List Int) (pl1 : Int) (rg : (Nat → Int)) (ms : List Int) (os1 : List Int) (en : Int) : Int × (Nat → Int) × List Int × List Int × Int := (pl1, rg, ms, os1, en)
set_option maxRecDepth 100000 in
theorem step_c5ok (p : Img) (inp : List Int) (pl : Int) (regs : Nat → Int) (mem os : List Int) (hp : Small p) (hI : ImmOk p) (hn : inp.length < 2 ^ 40) (hm : mem.length < 2 ^ 40) (ho : os.length < 2 ^ 39) (pl1 : Int) (rg : (Nat → Int)) (ms : List Int) (os1 : List Int) (en : Int)  : Good Try.prog 14 Try.f14.ntmps (look []) false (.tup [.agg (cat [.v (.int .i64 ((step_c5 p inp pl regs mem os pl1 rg ms os1 en).1))] (cat (arrA aU 8 ((step_c5 p inp pl regs mem os pl1 rg ms os1 en).2.1)) [.ro 1 (((step_c5 p inp pl regs mem os pl1 rg ms os1 en).2.2.1).length) (((step_c5 p inp pl regs mem os pl1 rg ms os1 en).2.2.1).map eb), .ro 1 (((step_c5 p inp pl regs mem os pl1 rg ms os1 en).2.2.2.1).length) (((step_c5 p inp pl regs mem os pl1 rg ms os1 en).2.2.2.1).map ei)])), .v (.int .i64 ((step_c5 p inp pl regs mem os pl1 rg ms os1 en).2.2.2.2))]) (postOf [] []) (cutAt Try.f14 5) [(6, .ptr 103 0), (7, .v (.int .i64 0)), (8, .ptr 501 0), (9, .v (.int .i64 en))] [(101, .cells [.v (.int .i64 p.mem), .v (.int .i64 p.stack), .v (.int .i64 p.input), .ro 1 p.data.length ((p.data).map eb), .ro 1 p.funs.length ((p.funs).map ei), .ro 5 p.code.length ((p.code).map eIns)] 26), (102, .cells (cat [.v (.int .i64 pl)] (cat (arrA aU 8 regs) [.ro 1 mem.length ((mem).map eb), .ro 1 os.length ((os).map ei)])) 44), (103, .cells (cat [.v (.int .i64 0)] (cat (arrA aU 8 (fun _ => 0)) [.v (.slice none 0 0), .v (.slice none 0 0)])) 44), (503, .row 1 5 ms.length ((ms).map eb)), (501, .cells (cat [.v (.int .i64 p.mem), .v (.int .i64 p.stack), .v (.int .i64 p.input), .ro 1 p.data.length ((p.data).map eb), .ro 1 p.funs.length ((p.funs).map ei), .ro 5 p.code.length ((p.code).map eIns), .ro 1 inp.length ((inp).map eb), .v (.int .i64 pl1)] (cat (arrA aU 8 rg) [.own 503, .own 504])) 61), (504, .row 1 3 os1.length ((os1).map ei))] := by
  unfold step_c5
  refine Good.freeze (n := 503) (by rfl) ?_
  refine Good.freeze (n := 504) (by rfl) ?_
  exact good_run Try.func14 mixed 400 [] (all0) (by kernel_rfl)
def step_s (p : Img) (inp : List Int) (pl : Int) (regs : Nat → Int) (mem os : List Int) : Int × (Nat → Int) × List Int × List Int × Int := (bif !(whole_s p pl regs mem os) then ((0 : Int), (fun _ => 0), ([] : List Int), ([] : List Int), (6 : Int)) else (step_c5 p inp pl regs mem os ((one_s p inp pl regs mem os).2.1) ((one_s p inp pl regs mem os).2.2.1) ((one_s p inp pl regs mem os).2.2.2.1) ((one_s p inp pl regs mem os).2.2.2.2) ((one_s p inp pl regs mem os).1)))
set_option maxRecDepth 100000 in
theorem step_ok (p : Img) (inp : List Int) (pl : Int) (regs : Nat → Int) (mem os : List Int) (hp : Small p) (hI : ImmOk p) (hn : inp.length < 2 ^ 40) (hm : mem.length < 2 ^ 40) (ho : os.length < 2 ^ 39) : Ok Try.prog 14 [.agg [.v (.int .i64 p.mem), .v (.int .i64 p.stack), .v (.int .i64 p.input), .ro 1 p.data.length ((p.data).map eb), .ro 1 p.funs.length ((p.funs).map ei), .ro 5 p.code.length ((p.code).map eIns)], .ro 1 inp.length ((inp).map eb), .agg (cat [.v (.int .i64 pl)] (cat (arrA aU 8 regs) [.ro 1 mem.length ((mem).map eb), .ro 1 os.length ((os).map ei)]))] (look []) (.tup [.agg (cat [.v (.int .i64 ((step_s p inp pl regs mem os).1))] (cat (arrA aU 8 ((step_s p inp pl regs mem os).2.1)) [.ro 1 (((step_s p inp pl regs mem os).2.2.1).length) (((step_s p inp pl regs mem os).2.2.1).map eb), .ro 1 (((step_s p inp pl regs mem os).2.2.2.1).length) (((step_s p inp pl regs mem os).2.2.2.1).map ei)])), .v (.int .i64 ((step_s p inp pl regs mem os).2.2.2.2))]) (postOf [] []) := by
  unfold step_s
  cases h1003 : (!(whole_s p pl regs mem os))
  · have p1003 := whole_t (notF h1003)
    refine ok_head (T := [(6, .ptr 103 0), (7, .v (.int .i64 0)), (8, .ptr 501 0), (9, .v (.int .i64 ((one_s p inp pl regs mem os).1)))]) (H := [(101, .cells [.v (.int .i64 p.mem), .v (.int .i64 p.stack), .v (.int .i64 p.input), .ro 1 p.data.length ((p.data).map eb), .ro 1 p.funs.length ((p.funs).map ei), .ro 5 p.code.length ((p.code).map eIns)] 26), (102, .cells (cat [.v (.int .i64 pl)] (cat (arrA aU 8 regs) [.ro 1 mem.length ((mem).map eb), .ro 1 os.length ((os).map ei)])) 44), (103, .cells (cat [.v (.int .i64 0)] (cat (arrA aU 8 (fun _ => 0)) [.v (.slice none 0 0), .v (.slice none 0 0)])) 44), (503, .row 1 5 (((one_s p inp pl regs mem os).2.2.2.1).length) (((one_s p inp pl regs mem os).2.2.2.1).map eb)), (501, .cells (cat [.v (.int .i64 p.mem), .v (.int .i64 p.stack), .v (.int .i64 p.input), .ro 1 p.data.length ((p.data).map eb), .ro 1 p.funs.length ((p.funs).map ei), .ro 5 p.code.length ((p.code).map eIns), .ro 1 inp.length ((inp).map eb), .v (.int .i64 ((one_s p inp pl regs mem os).2.1))] (cat (arrA aU 8 ((one_s p inp pl regs mem os).2.2.1)) [.own 503, .own 505])) 61), (505, .row 1 3 (((one_s p inp pl regs mem os).2.2.2.2).length) (((one_s p inp pl regs mem os).2.2.2.2).map ei))]) (todo := cutAt Try.f14 5) Try.func14 rfl rfl mixed 400 [(0, .nm 101), (1, .nm 102), (2, .nm 103), (1002, .call [] [] (.v (.bool (whole_s p pl regs mem os)))), (1003, .b false), (3008, .call [] [(503, some (.row 1 5 mem.length ((mem).map eb)))] (.own 503)), (3011, .call [] [(504, some (.row 1 3 os.length ((os).map ei)))] (.own 504)), (3014, .nm 501), (4001, .call [501, 503, 504] [(501, some (.cells (cat [.v (.int .i64 p.mem), .v (.int .i64 p.stack), .v (.int .i64 p.input), .ro 1 p.data.length ((p.data).map eb), .ro 1 p.funs.length ((p.funs).map ei), .ro 5 p.code.length ((p.code).map eIns), .ro 1 inp.length ((inp).map eb), .v (.int .i64 ((one_s p inp pl regs mem os).2.1))] (cat (arrA aU 8 ((one_s p inp pl regs mem os).2.2.1)) [.own 503, .own 505])) 61)), (503, some (.row 1 5 (((one_s p inp pl regs mem os).2.2.2.1).length) (((one_s p inp pl regs mem os).2.2.2.1).map eb))), (504, none), (505, some (.row 1 3 (((one_s p inp pl regs mem os).2.2.2.2).length) (((one_s p inp pl regs mem os).2.2.2.2).map ei)))] (.v (.int .i64 ((one_s p inp pl regs mem os).1)))), (5999, .b true)] (all5 (whole_ok p pl regs mem os hp (by omega)) h1003 (cloB_ok mem (by omega)) (cloI_ok os (by omega)) (one_ok p inp pl regs mem os (enc_valid hp hI p1003.1) hn (by have := (enc_valid hp hI p1003.1).mem; have := p1003.2; omega) (by have := (enc_valid hp hI p1003.1).stack; have := p1003.2; omega))) (by kernel_rfl) ?_
    refine Good.ren 505 504 (by kernel_rfl) ?_
    exact Good.cast (by kernel_rfl) (by kernel_rfl) (step_c5ok p inp pl regs mem os hp hI hn hm ho ((one_s p inp pl regs mem os).2.1) ((one_s p inp pl regs mem os).2.2.1) ((one_s p inp pl regs mem os).2.2.2.1) ((one_s p inp pl regs mem os).2.2.2.2) ((one_s p inp pl regs mem os).1) )
  · have p1003 := notT h1003
    refine Ok.le (res := .tup [.agg (cat [.v (.int .i64 0)] (cat (arrA aU 8 (fun _ => 0)) [.v (.slice none 0 0), .v (.slice none 0 0)])), .v (.int .i64 6)]) ?_ (by repeat (first | exact LeA.refl _ | exact LeA.nil _ | exact LeL.nil | apply LeA.tup | apply LeA.agg | apply LeA.vagg | apply LeL.cons | apply LeA.ifc))
    exact ok_run Try.func14 rfl rfl mixed 400 [(0, .nm 101), (1, .nm 102), (2, .nm 103), (1002, .call [] [] (.v (.bool (whole_s p pl regs mem os)))), (1003, .b true)] (all2 (whole_ok p pl regs mem os hp (by omega)) h1003) (by kernel_rfl)

theorem step_rng {p : Img} {inp : List Int} {pl : Int} {regs : Nat → Int} {mem os : List Int} (hp : Small p) (hI : ImmOk p) : (step_s p inp pl regs mem os).2.2.1.length ≤ 64 ∧ (step_s p inp pl regs mem os).2.2.2.1.length ≤ 16 := by
  unfold step_s
  refine bifP (P := fun r : Int × (Nat → Int) × List Int × List Int × Int => r.2.2.1.length ≤ 64 ∧ r.2.2.2.1.length ≤ 16) (fun _ => ⟨Nat.zero_le _, Nat.zero_le _⟩) fun h => ?_
  have hw := whole_t (notF h)
  have V := enc_valid hp hI hw.1
  have h1 := one_len (inp := inp) (pl := pl) (regs := regs) (mem := mem) V (show os.length ≤ 16 by have := V.stack; omega)
  have h2 := V.mem
  exact ⟨by show (one_s p inp pl regs mem os).2.2.2.1.length ≤ 64; omega, h1.2⟩
end Go.Proofs.Yteolbecihipcaaa.Sx.M5
