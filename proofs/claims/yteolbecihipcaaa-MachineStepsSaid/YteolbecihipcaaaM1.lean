/- What the functions of a chapter compute, as contracts; written by a program of this session. -/
import Derived.Test.YteolbecihipcaaaProg
import Derived.Test.YteolbecihipcaaaSx22
open Go Go.Proofs Go.RowKit
namespace Go.Proofs.Yteolbecihipcaaa.Sx.M5
theorem mixed : Try.prog.follows .mixedOrders = true := by kernel_rfl
structure Ins where
  op : Int
  a : Int
  b : Int
  c : Int
  imm : Int
  deriving DecidableEq, Inhabited
structure Img where
  mem : Int
  stack : Int
  input : Int
  data : List Int
  funs : List Int
  code : List Ins
  deriving Inhabited
structure Form where
  name : ByteArray
  has : Int
  deriving Inhabited
abbrev eForm (f : Form) : List Value := [.string f.name, .int .i64 f.has]
abbrev eIns (i : Ins) : List Value := [.int .i64 i.op, .int .i64 i.a, .int .i64 i.b, .int .i64 i.c, .int .u64 i.imm]
/-- No list is beyond what may be. -/
abbrev Small (p : Img) : Prop := p.data.length < 2 ^ 40 ∧ p.funs.length < 2 ^ 40 ∧ p.code.length < 2 ^ 40
set_option linter.unusedVariables false
set_option linter.unusedSimpArgs false
def known_s (n : Int) : Bool := (bif decide (n ≥ (0 : Int)) then (decide (n ≤ (25 : Int))) else false)
set_option maxRecDepth 100000 in
theorem known_ok (n : Int)  : Ok Try.prog 56 [.v (.int .i64 n)] (look []) (.v (.bool (known_s n))) (postOf [] []) := by
  unfold known_s
  cases h1001 : (decide (n ≥ (0 : Int)))
  · have p1001 := of_decide_eq_false h1001
    exact ok_run Try.func56 rfl rfl mixed 400 [(1001, .b false)] (all1 h1001) (by kernel_rfl)
  · have p1001 := of_decide_eq_true h1001
    exact ok_run Try.func56 rfl rfl mixed 400 [(1001, .b true)] (all1 h1001) (by kernel_rfl)

def goes_s (n : Int) : Bool := (bif n == (0 : Int) then false else (bif n == (21 : Int) then false else (bif n == (24 : Int) then false else (bif n == (25 : Int) then false else (known_s n)))))
set_option maxRecDepth 100000 in
theorem goes_ok (n : Int)  : Ok Try.prog 62 [.v (.int .i64 n)] (look []) (.v (.bool (goes_s n))) (postOf [] []) := by
  unfold goes_s
  cases h2000 : (n == (0 : Int))
  · have p2000 := ne_of_beq_false h2000
    cases h3000 : (n == (21 : Int))
    · have p3000 := ne_of_beq_false h3000
      cases h4000 : (n == (24 : Int))
      · have p4000 := ne_of_beq_false h4000
        cases h5000 : (n == (25 : Int))
        · have p5000 := ne_of_beq_false h5000
          exact ok_run Try.func62 rfl rfl mixed 400 [(2000, .b false), (3000, .b false), (4000, .b false), (5000, .b false), (7001, .call [] [] (.v (.bool (known_s n))))] (all5 h2000 h3000 h4000 h5000 (known_ok n )) (by kernel_rfl)
        · have p5000 := eq_of_beq h5000
          exact ok_run Try.func62 rfl rfl mixed 400 [(2000, .b false), (3000, .b false), (4000, .b false), (5000, .b true)] (all4 h2000 h3000 h4000 h5000) (by kernel_rfl)
      · have p4000 := eq_of_beq h4000
        exact ok_run Try.func62 rfl rfl mixed 400 [(2000, .b false), (3000, .b false), (4000, .b true)] (all3 h2000 h3000 h4000) (by kernel_rfl)
    · have p3000 := eq_of_beq h3000
      exact ok_run Try.func62 rfl rfl mixed 400 [(2000, .b false), (3000, .b true)] (all2 h2000 h3000) (by kernel_rfl)
  · have p2000 := eq_of_beq h2000
    exact ok_run Try.func62 rfl rfl mixed 400 [(2000, .b true)] (all1 h2000) (by kernel_rfl)

def register_s (n : Int) : Bool := (bif decide (n ≥ (0 : Int)) then (decide (n < (8 : Int))) else false)
set_option maxRecDepth 100000 in
theorem register_ok (n : Int)  : Ok Try.prog 83 [.v (.int .i64 n)] (look []) (.v (.bool (register_s n))) (postOf [] []) := by
  unfold register_s
  cases h1001 : (decide (n ≥ (0 : Int)))
  · have p1001 := of_decide_eq_false h1001
    exact ok_run Try.func83 rfl rfl mixed 400 [(1001, .b false)] (all1 h1001) (by kernel_rfl)
  · have p1001 := of_decide_eq_true h1001
    exact ok_run Try.func83 rfl rfl mixed 400 [(1001, .b true)] (all1 h1001) (by kernel_rfl)

def within_s (n lo hi : Int) : Bool := (bif decide (n ≥ lo) then (decide (n ≤ hi)) else false)
set_option maxRecDepth 100000 in
theorem within_ok (n lo hi : Int)  : Ok Try.prog 55 [.v (.int .i64 n), .v (.int .i64 lo), .v (.int .i64 hi)] (look []) (.v (.bool (within_s n lo hi))) (postOf [] []) := by
  unfold within_s
  cases h1002 : (decide (n ≥ lo))
  · have p1002 := of_decide_eq_false h1002
    exact ok_run Try.func55 rfl rfl mixed 400 [(1002, .b false)] (all1 h1002) (by kernel_rfl)
  · have p1002 := of_decide_eq_true h1002
    exact ok_run Try.func55 rfl rfl mixed 400 [(1002, .b true)] (all1 h1002) (by kernel_rfl)

def in3_s (n lo hi : Int) : Bool := (bif decide (n ≥ lo) then (decide (n ≤ hi)) else false)
set_option maxRecDepth 100000 in
theorem in3_ok (n lo hi : Int)  : Ok Try.prog 38 [.v (.int .i64 n), .v (.int .i64 lo), .v (.int .i64 hi)] (look []) (.v (.bool (in3_s n lo hi))) (postOf [] []) := by
  unfold in3_s
  cases h1002 : (decide (n ≥ lo))
  · have p1002 := of_decide_eq_false h1002
    exact ok_run Try.func38 rfl rfl mixed 400 [(1002, .b false)] (all1 h1002) (by kernel_rfl)
  · have p1002 := of_decide_eq_true h1002
    exact ok_run Try.func38 rfl rfl mixed 400 [(1002, .b true)] (all1 h1002) (by kernel_rfl)

def kept_s (i : Ins) (has : Int) : Ins := (bif (Go.bits .and .i64 has 1) != (0 : Int) then (bif (Go.bits .and .i64 has 2) != (0 : Int) then (bif (Go.bits .and .i64 has 12) != (0 : Int) then (bif (Go.bits .and .i64 has 16) != (0 : Int) then i else (⟨i.op, i.a, i.b, i.c, 0⟩ : Ins)) else (bif (Go.bits .and .i64 has 16) != (0 : Int) then (⟨i.op, i.a, i.b, 0, i.imm⟩ : Ins) else (⟨i.op, i.a, i.b, 0, 0⟩ : Ins))) else (bif (Go.bits .and .i64 has 12) != (0 : Int) then (bif (Go.bits .and .i64 has 16) != (0 : Int) then (⟨i.op, i.a, 0, i.c, i.imm⟩ : Ins) else (⟨i.op, i.a, 0, i.c, 0⟩ : Ins)) else (bif (Go.bits .and .i64 has 16) != (0 : Int) then (⟨i.op, i.a, 0, 0, i.imm⟩ : Ins) else (⟨i.op, i.a, 0, 0, 0⟩ : Ins)))) else (bif (Go.bits .and .i64 has 2) != (0 : Int) then (bif (Go.bits .and .i64 has 12) != (0 : Int) then (bif (Go.bits .and .i64 has 16) != (0 : Int) then (⟨i.op, 0, i.b, i.c, i.imm⟩ : Ins) else (⟨i.op, 0, i.b, i.c, 0⟩ : Ins)) else (bif (Go.bits .and .i64 has 16) != (0 : Int) then (⟨i.op, 0, i.b, 0, i.imm⟩ : Ins) else (⟨i.op, 0, i.b, 0, 0⟩ : Ins))) else (bif (Go.bits .and .i64 has 12) != (0 : Int) then (bif (Go.bits .and .i64 has 16) != (0 : Int) then (⟨i.op, 0, 0, i.c, i.imm⟩ : Ins) else (⟨i.op, 0, 0, i.c, 0⟩ : Ins)) else (bif (Go.bits .and .i64 has 16) != (0 : Int) then (⟨i.op, 0, 0, 0, i.imm⟩ : Ins) else (⟨i.op, 0, 0, 0, 0⟩ : Ins)))))
set_option maxRecDepth 100000 in
theorem kept_ok (i : Ins) (has : Int)  : Ok Try.prog 82 [.agg [.v (.int .i64 i.op), .v (.int .i64 i.a), .v (.int .i64 i.b), .v (.int .i64 i.c), .v (.int .u64 i.imm)], .v (.int .i64 has)] (look []) (.agg [.v (.int .i64 ((kept_s i has).op)), .v (.int .i64 ((kept_s i has).a)), .v (.int .i64 ((kept_s i has).b)), .v (.int .i64 ((kept_s i has).c)), .v (.int .u64 ((kept_s i has).imm))]) (postOf [] []) := by
  unfold kept_s
  cases h2002 : ((Go.bits .and .i64 has 1) != (0 : Int))
  · have p2002 := bne_eq_false_iff_eq.1 h2002
    cases h4002 : ((Go.bits .and .i64 has 2) != (0 : Int))
    · have p4002 := bne_eq_false_iff_eq.1 h4002
      cases h6002 : ((Go.bits .and .i64 has 12) != (0 : Int))
      · have p6002 := bne_eq_false_iff_eq.1 h6002
        cases h8002 : ((Go.bits .and .i64 has 16) != (0 : Int))
        · have p8002 := bne_eq_false_iff_eq.1 h8002
          exact ok_run Try.func82 rfl rfl mixed 400 [(0, .nm 101), (1, .nm 102), (1003, .nm 103), (2002, .b false), (4002, .b false), (6002, .b false), (8002, .b false)] (all4 h2002 h4002 h6002 h8002) (by kernel_rfl)
        · have p8002 := bne_iff_ne.1 h8002
          exact ok_run Try.func82 rfl rfl mixed 400 [(0, .nm 101), (1, .nm 102), (1003, .nm 103), (2002, .b false), (4002, .b false), (6002, .b false), (8002, .b true)] (all4 h2002 h4002 h6002 h8002) (by kernel_rfl)
      · have p6002 := bne_iff_ne.1 h6002
        cases h8002 : ((Go.bits .and .i64 has 16) != (0 : Int))
        · have p8002 := bne_eq_false_iff_eq.1 h8002
          exact ok_run Try.func82 rfl rfl mixed 400 [(0, .nm 101), (1, .nm 102), (1003, .nm 103), (2002, .b false), (4002, .b false), (6002, .b true), (8002, .b false)] (all4 h2002 h4002 h6002 h8002) (by kernel_rfl)
        · have p8002 := bne_iff_ne.1 h8002
          exact ok_run Try.func82 rfl rfl mixed 400 [(0, .nm 101), (1, .nm 102), (1003, .nm 103), (2002, .b false), (4002, .b false), (6002, .b true), (8002, .b true)] (all4 h2002 h4002 h6002 h8002) (by kernel_rfl)
    · have p4002 := bne_iff_ne.1 h4002
      cases h6002 : ((Go.bits .and .i64 has 12) != (0 : Int))
      · have p6002 := bne_eq_false_iff_eq.1 h6002
        cases h8002 : ((Go.bits .and .i64 has 16) != (0 : Int))
        · have p8002 := bne_eq_false_iff_eq.1 h8002
          exact ok_run Try.func82 rfl rfl mixed 400 [(0, .nm 101), (1, .nm 102), (1003, .nm 103), (2002, .b false), (4002, .b true), (6002, .b false), (8002, .b false)] (all4 h2002 h4002 h6002 h8002) (by kernel_rfl)
        · have p8002 := bne_iff_ne.1 h8002
          exact ok_run Try.func82 rfl rfl mixed 400 [(0, .nm 101), (1, .nm 102), (1003, .nm 103), (2002, .b false), (4002, .b true), (6002, .b false), (8002, .b true)] (all4 h2002 h4002 h6002 h8002) (by kernel_rfl)
      · have p6002 := bne_iff_ne.1 h6002
        cases h8002 : ((Go.bits .and .i64 has 16) != (0 : Int))
        · have p8002 := bne_eq_false_iff_eq.1 h8002
          exact ok_run Try.func82 rfl rfl mixed 400 [(0, .nm 101), (1, .nm 102), (1003, .nm 103), (2002, .b false), (4002, .b true), (6002, .b true), (8002, .b false)] (all4 h2002 h4002 h6002 h8002) (by kernel_rfl)
        · have p8002 := bne_iff_ne.1 h8002
          exact ok_run Try.func82 rfl rfl mixed 400 [(0, .nm 101), (1, .nm 102), (1003, .nm 103), (2002, .b false), (4002, .b true), (6002, .b true), (8002, .b true)] (all4 h2002 h4002 h6002 h8002) (by kernel_rfl)
  · have p2002 := bne_iff_ne.1 h2002
    cases h4002 : ((Go.bits .and .i64 has 2) != (0 : Int))
    · have p4002 := bne_eq_false_iff_eq.1 h4002
      cases h6002 : ((Go.bits .and .i64 has 12) != (0 : Int))
      · have p6002 := bne_eq_false_iff_eq.1 h6002
        cases h8002 : ((Go.bits .and .i64 has 16) != (0 : Int))
        · have p8002 := bne_eq_false_iff_eq.1 h8002
          exact ok_run Try.func82 rfl rfl mixed 400 [(0, .nm 101), (1, .nm 102), (1003, .nm 103), (2002, .b true), (4002, .b false), (6002, .b false), (8002, .b false)] (all4 h2002 h4002 h6002 h8002) (by kernel_rfl)
        · have p8002 := bne_iff_ne.1 h8002
          exact ok_run Try.func82 rfl rfl mixed 400 [(0, .nm 101), (1, .nm 102), (1003, .nm 103), (2002, .b true), (4002, .b false), (6002, .b false), (8002, .b true)] (all4 h2002 h4002 h6002 h8002) (by kernel_rfl)
      · have p6002 := bne_iff_ne.1 h6002
        cases h8002 : ((Go.bits .and .i64 has 16) != (0 : Int))
        · have p8002 := bne_eq_false_iff_eq.1 h8002
          exact ok_run Try.func82 rfl rfl mixed 400 [(0, .nm 101), (1, .nm 102), (1003, .nm 103), (2002, .b true), (4002, .b false), (6002, .b true), (8002, .b false)] (all4 h2002 h4002 h6002 h8002) (by kernel_rfl)
        · have p8002 := bne_iff_ne.1 h8002
          exact ok_run Try.func82 rfl rfl mixed 400 [(0, .nm 101), (1, .nm 102), (1003, .nm 103), (2002, .b true), (4002, .b false), (6002, .b true), (8002, .b true)] (all4 h2002 h4002 h6002 h8002) (by kernel_rfl)
    · have p4002 := bne_iff_ne.1 h4002
      cases h6002 : ((Go.bits .and .i64 has 12) != (0 : Int))
      · have p6002 := bne_eq_false_iff_eq.1 h6002
        cases h8002 : ((Go.bits .and .i64 has 16) != (0 : Int))
        · have p8002 := bne_eq_false_iff_eq.1 h8002
          exact ok_run Try.func82 rfl rfl mixed 400 [(0, .nm 101), (1, .nm 102), (1003, .nm 103), (2002, .b true), (4002, .b true), (6002, .b false), (8002, .b false)] (all4 h2002 h4002 h6002 h8002) (by kernel_rfl)
        · have p8002 := bne_iff_ne.1 h8002
          exact ok_run Try.func82 rfl rfl mixed 400 [(0, .nm 101), (1, .nm 102), (1003, .nm 103), (2002, .b true), (4002, .b true), (6002, .b false), (8002, .b true)] (all4 h2002 h4002 h6002 h8002) (by kernel_rfl)
      · have p6002 := bne_iff_ne.1 h6002
        cases h8002 : ((Go.bits .and .i64 has 16) != (0 : Int))
        · have p8002 := bne_eq_false_iff_eq.1 h8002
          exact ok_run Try.func82 rfl rfl mixed 400 [(0, .nm 101), (1, .nm 102), (1003, .nm 103), (2002, .b true), (4002, .b true), (6002, .b true), (8002, .b false)] (all4 h2002 h4002 h6002 h8002) (by kernel_rfl)
        · have p8002 := bne_iff_ne.1 h8002
          exact ok_run Try.func82 rfl rfl mixed 400 [(0, .nm 101), (1, .nm 102), (1003, .nm 103), (2002, .b true), (4002, .b true), (6002, .b true), (8002, .b true)] (all4 h2002 h4002 h6002 h8002) (by kernel_rfl)

theorem within_t {n lo hi : Int} (h : within_s n lo hi = true) : lo ≤ n ∧ n ≤ hi := by
  unfold within_s at h
  cases h1 : decide (n ≥ lo) with
  | false => rw [h1] at h; cases h
  | true =>
    rw [h1] at h
    exact ⟨of_decide_eq_true h1, of_decide_eq_true (show decide (n ≤ hi) = true from h)⟩

def few_s (p : Img) : Bool := (bif decide ((p.data.length : Int) ≤ (100 : Int)) then (bif decide ((p.funs.length : Int) ≤ (40 : Int)) then (decide ((p.code.length : Int) ≤ (300 : Int))) else false) else false)
set_option maxRecDepth 100000 in
theorem few_ok (p : Img)  : Ok Try.prog 20 [.agg [.v (.int .i64 p.mem), .v (.int .i64 p.stack), .v (.int .i64 p.input), .ro 1 p.data.length ((p.data).map eb), .ro 1 p.funs.length ((p.funs).map ei), .ro 5 p.code.length ((p.code).map eIns)]] (look []) (.v (.bool (few_s p))) (postOf [] []) := by
  unfold few_s
  cases h1003 : (decide ((p.data.length : Int) ≤ (100 : Int)))
  · have p1003 := of_decide_eq_false h1003
    exact ok_run Try.func20 rfl rfl mixed 400 [(0, .nm 101), (1003, .b false)] (all1 h1003) (by kernel_rfl)
  · have p1003 := of_decide_eq_true h1003
    cases h1008 : (decide ((p.funs.length : Int) ≤ (40 : Int)))
    · have p1008 := of_decide_eq_false h1008
      exact ok_run Try.func20 rfl rfl mixed 400 [(0, .nm 101), (1003, .b true), (1008, .b false)] (all2 h1003 h1008) (by kernel_rfl)
    · have p1008 := of_decide_eq_true h1008
      exact ok_run Try.func20 rfl rfl mixed 400 [(0, .nm 101), (1003, .b true), (1008, .b true)] (all2 h1003 h1008) (by kernel_rfl)

def fun_l0 (p : Img) (place : Int) : Nat → Int → Int
  | 0, _ => default
  | m + 1, n => (bif decide (n ≥ (0 : Int)) then (bif decide ((p.funs.getD ((n).toNat) 0) > place) then (fun_l0 p place m (n - 1)) else n) else n)
set_option maxRecDepth 100000 in
theorem fun_lok0 (p : Img) (place : Int) (hp : Small p) : ∀ (m : Nat) (n : Int), (-1 ≤ n) → (n < p.funs.length) → (n + 1).toNat < m → Good Try.prog 19 Try.f19.ntmps (look []) false (.v (.int .i64 (fun_l0 p place m n))) (postOf [] []) (headAt Try.f19 0) [(1, .v (.int .i64 place)), (2, .ptr 101 0), (4, .v (.int .i64 0)), (5, .v (.int .i64 n))] [(101, .cells [.v (.int .i64 p.mem), .v (.int .i64 p.stack), .v (.int .i64 p.input), .ro 1 p.data.length ((p.data).map eb), .ro 1 p.funs.length ((p.funs).map ei), .ro 5 p.code.length ((p.code).map eIns)] 26)] := by
  intro m
  induction m with
  | zero => intro n i1 i2 hm; exact absurd hm (Nat.not_lt_zero _)
  | succ m ih =>
    intro n i1 i2 hm
    rw [fun_l0]
    have := hp.1; have := hp.2.1; have := hp.2.2
    cases h4001 : (decide (n ≥ (0 : Int)))
    · have p4001 := of_decide_eq_false h4001
      exact good_run Try.func19 mixed 400 [(4001, .b false)] (all1 h4001) (by kernel_rfl)
    · have p4001 := of_decide_eq_true h4001
      cases h4009 : (decide ((p.funs.getD ((n).toNat) 0) > place))
      · have p4009 := of_decide_eq_false h4009
        exact good_run Try.func19 mixed 400 [(4001, .b true), (4006, .el (ei (p.funs.getD ((n).toNat) 0))), (4009, .b false)] (all4 h4001 (show (0 : Int) ≤ n by omega) (getg (l := p.funs) (n := (n).toNat) ei 0 (by omega)) h4009) (by kernel_rfl)
      · have p4009 := of_decide_eq_true h4009
        refine good_head (T := [(1, .v (.int .i64 place)), (2, .ptr 101 0), (4, .v (.int .i64 0)), (5, .v (.int .i64 (n - 1)))]) (H := [(101, .cells [.v (.int .i64 p.mem), .v (.int .i64 p.stack), .v (.int .i64 p.input), .ro 1 p.data.length ((p.data).map eb), .ro 1 p.funs.length ((p.funs).map ei), .ro 5 p.code.length ((p.code).map eIns)] 26)]) (todo' := headAt Try.f19 0) Try.func19 mixed 400 [(4001, .b true), (4006, .el (ei (p.funs.getD ((n).toNat) 0))), (4009, .b true), (5001, .as_ (.v (.int .i64 (n - 1))))] (all5 h4001 (show (0 : Int) ≤ n by omega) (getg (l := p.funs) (n := (n).toNat) ei 0 (by omega)) h4009 (wr64 (x := n - 1) (by omega))) (by kernel_rfl) ?_
        exact ih (n - 1) (by omega) (by omega) (by omega)
def fun_s (p : Img) (place : Int) : Int := (bif decide (place < (0 : Int)) then (-1 : Int) else (bif decide (place ≥ (p.code.length : Int)) then (-1 : Int) else (fun_l0 p place ((((p.funs.length : Int) - 1) + 1).toNat + 1) ((p.funs.length : Int) - 1))))
set_option maxRecDepth 100000 in
theorem fun_ok (p : Img) (place : Int) (hp : Small p) : Ok Try.prog 19 [.agg [.v (.int .i64 p.mem), .v (.int .i64 p.stack), .v (.int .i64 p.input), .ro 1 p.data.length ((p.data).map eb), .ro 1 p.funs.length ((p.funs).map ei), .ro 5 p.code.length ((p.code).map eIns)], .v (.int .i64 place)] (look []) (.v (.int .i64 (fun_s p place))) (postOf [] []) := by
  unfold fun_s
  have := hp.1; have := hp.2.1; have := hp.2.2
  cases h1001 : (decide (place < (0 : Int)))
  · have p1001 := of_decide_eq_false h1001
    cases h1007 : (decide (place ≥ (p.code.length : Int)))
    · have p1007 := of_decide_eq_false h1007
      refine ok_head (T := [(1, .v (.int .i64 place)), (2, .ptr 101 0), (4, .v (.int .i64 0)), (5, .v (.int .i64 ((p.funs.length : Int) - 1)))]) (H := [(101, .cells [.v (.int .i64 p.mem), .v (.int .i64 p.stack), .v (.int .i64 p.input), .ro 1 p.data.length ((p.data).map eb), .ro 1 p.funs.length ((p.funs).map ei), .ro 5 p.code.length ((p.code).map eIns)] 26)]) (todo := headAt Try.f19 0) Try.func19 rfl rfl mixed 400 [(0, .nm 101), (1001, .b false), (1007, .b false), (3003, .as_ (.v (.int .i64 ((p.funs.length : Int) - 1))))] (all3 h1001 h1007 (wr64 (x := (p.funs.length : Int) - 1) (by omega))) (by kernel_rfl) ?_
      exact fun_lok0 p place hp _ ((p.funs.length : Int) - 1) (by omega) (by omega) (Nat.lt_succ_self _)
    · have p1007 := of_decide_eq_true h1007
      exact ok_run Try.func19 rfl rfl mixed 400 [(0, .nm 101), (1001, .b false), (1007, .b true)] (all2 h1001 h1007) (by kernel_rfl)
  · have p1001 := of_decide_eq_true h1001
    exact ok_run Try.func19 rfl rfl mixed 400 [(0, .nm 101), (1001, .b true)] (all1 h1001) (by kernel_rfl)

def ends_s (p : Img) (f : Int) : Int × Int := (bif decide ((f + 1) < (p.funs.length : Int)) then ((p.funs.getD ((f).toNat) 0), (p.funs.getD ((f + 1).toNat) 0)) else ((p.funs.getD ((f).toNat) 0), (p.code.length : Int)))
set_option maxRecDepth 100000 in
theorem ends_ok (p : Img) (f : Int) (hp : Small p) (h0 : 0 ≤ f) (h1 : f < p.funs.length) : Ok Try.prog 61 [.agg [.v (.int .i64 p.mem), .v (.int .i64 p.stack), .v (.int .i64 p.input), .ro 1 p.data.length ((p.data).map eb), .ro 1 p.funs.length ((p.funs).map ei), .ro 5 p.code.length ((p.code).map eIns)], .v (.int .i64 f)] (look []) (.tup [.v (.int .i64 ((ends_s p f).1)), .v (.int .i64 ((ends_s p f).2))]) (postOf [] []) := by
  unfold ends_s
  have := hp.1; have := hp.2.1; have := hp.2.2
  cases h1005 : (decide ((f + 1) < (p.funs.length : Int)))
  · have p1005 := of_decide_eq_false h1005
    exact ok_run Try.func61 rfl rfl mixed 400 [(0, .nm 101), (1001, .as_ (.v (.int .i64 (f + 1)))), (1005, .b false), (3003, .el (ei (p.funs.getD ((f).toNat) 0)))] (all4 (wr64 (x := f + 1) (by omega)) h1005 (show (0 : Int) ≤ f by omega) (getg (l := p.funs) (n := (f).toNat) ei 0 (by omega))) (by kernel_rfl)
  · have p1005 := of_decide_eq_true h1005
    exact ok_run Try.func61 rfl rfl mixed 400 [(0, .nm 101), (1001, .as_ (.v (.int .i64 (f + 1)))), (1005, .b true), (2003, .el (ei (p.funs.getD ((f).toNat) 0))), (2008, .as_ (.v (.int .i64 (f + 1)))), (2009, .el (ei (p.funs.getD ((f + 1).toNat) 0)))] (all7 (wr64 (x := f + 1) (by omega)) h1005 (show (0 : Int) ≤ f by omega) (getg (l := p.funs) (n := (f).toNat) ei 0 (by omega)) (wr64 (x := f + 1) (by omega)) (show (0 : Int) ≤ f + 1 by omega) (getg (l := p.funs) (n := (f + 1).toNat) ei 0 (by omega))) (by kernel_rfl)

def places_l0 (p : Img) : Nat → Int → List Int → List Int
  | 0, _, _ => default
  | m + 1, i, out => (bif decide (i < ((List.replicate p.code.length (0 : Int)).length : Int)) then (places_l0 p m (i + 1) (out.set ((i).toNat) i)) else out)
set_option maxRecDepth 100000 in
theorem places_lok0 (p : Img) (hp : Small p) : ∀ (m : Nat) (i : Int) (out : List Int), (0 ≤ i) → (i ≤ out.length) → (out.length = p.code.length) → out.length - (i : Int).toNat < m → Good Try.prog 59 Try.f59.ntmps (look []) false (.ro 1 ((places_l0 p m i out).length) ((places_l0 p m i out).map ei)) (postOf [] []) (headAt Try.f59 0) [(2, .v (.slice none 0 0)), (3, .own 102), (10, .v (.int .i64 ((List.replicate p.code.length (0 : Int)).length : Int))), (11, .v (.int .i64 i))] [(101, .cells [.v (.int .i64 p.mem), .v (.int .i64 p.stack), .v (.int .i64 p.input), .ro 1 p.data.length ((p.data).map eb), .ro 1 p.funs.length ((p.funs).map ei), .ro 5 p.code.length ((p.code).map eIns)] 26), (102, .row 1 3 out.length ((out).map ei))] := by
  intro m
  induction m with
  | zero => intro i out i1 i2 i3 hm; exact absurd hm (Nat.not_lt_zero _)
  | succ m ih =>
    intro i out i1 i2 i3 hm
    rw [places_l0]
    have := hp.1; have := hp.2.1; have := hp.2.2
    cases h3000 : (decide (i < ((List.replicate p.code.length (0 : Int)).length : Int)))
    · have p3000 := of_decide_eq_false h3000
      refine Good.freeze (n := 102) (by rfl) ?_
      exact good_run Try.func59 mixed 400 [(3000, .b false)] (all1 h3000) (by kernel_rfl)
    · have p3000 := of_decide_eq_true h3000
      refine good_head (T := [(2, .v (.slice none 0 0)), (3, .own 102), (10, .v (.int .i64 ((List.replicate p.code.length (0 : Int)).length : Int))), (11, .v (.int .i64 (i + 1)))]) (H := [(101, .cells [.v (.int .i64 p.mem), .v (.int .i64 p.stack), .v (.int .i64 p.input), .ro 1 p.data.length ((p.data).map eb), .ro 1 p.funs.length ((p.funs).map ei), .ro 5 p.code.length ((p.code).map eIns)] 26), (102, .row 1 3 ((out.set ((i).toNat) i).length) ((out.set ((i).toNat) i).map ei))]) (todo' := headAt Try.f59 0) Try.func59 mixed 400 [(3000, .b true), (5004, .put (ei (out.getD ((i).toNat) 0)) ((out.set ((i).toNat) i).length) ((out.set ((i).toNat) i).map ei)), (6000, .as_ (.v (.int .i64 (i + 1))))] (all6 h3000 (show (0 : Int) ≤ i by omega) (show (i : Int) < out.length by (first | omega | (simp only [List.length_set, List.length_append, List.length_cons, List.length_nil, List.length_map, List.length_take, List.length_drop, List.length_replicate] <;> omega) | (simp only [List.length_set, List.length_append, List.length_cons, List.length_nil, List.length_map, List.length_take, List.length_drop, List.length_replicate] at * <;> omega))) (getg (l := out) (n := (i).toNat) ei 0 (by (first | omega | (simp only [List.length_set, List.length_append, List.length_cons, List.length_nil, List.length_map, List.length_take, List.length_drop, List.length_replicate] <;> omega) | (simp only [List.length_set, List.length_append, List.length_cons, List.length_nil, List.length_map, List.length_take, List.length_drop, List.length_replicate] at * <;> omega)))) (setE ei out ((i).toNat) i (cv := [.int .i64 i]) (e := ei (out.getD ((i).toNat) 0)) rfl) (wr64 (x := i + 1) (by omega))) (by kernel_rfl) ?_
      exact ih (i + 1) (out.set ((i).toNat) i) (by omega) (by (first | omega | (simp only [List.length_set, List.length_append, List.length_cons, List.length_nil, List.length_map, List.length_take, List.length_drop, List.length_replicate] <;> omega) | (simp only [List.length_set, List.length_append, List.length_cons, List.length_nil, List.length_map, List.length_take, List.length_drop, List.length_replicate] at * <;> omega))) (by (first | omega | (simp only [List.length_set, List.length_append, List.length_cons, List.length_nil, List.length_map, List.length_take, List.length_drop, List.length_replicate] <;> omega) | (simp only [List.length_set, List.length_append, List.length_cons, List.length_nil, List.length_map, List.length_take, List.length_drop, List.length_replicate] at * <;> omega))) (by (first | omega | (simp only [List.length_set, List.length_append, List.length_cons, List.length_nil, List.length_map, List.length_take, List.length_drop, List.length_replicate] <;> omega) | (simp only [List.length_set, List.length_append, List.length_cons, List.length_nil, List.length_map, List.length_take, List.length_drop, List.length_replicate] at * <;> omega)))
def places_s (p : Img) : List Int := (places_l0 p (((List.replicate p.code.length (0 : Int))).length - ((0) : Int).toNat + 1) 0 (List.replicate p.code.length (0 : Int)))
set_option maxRecDepth 100000 in
theorem places_ok (p : Img) (hp : Small p) : Ok Try.prog 59 [.agg [.v (.int .i64 p.mem), .v (.int .i64 p.stack), .v (.int .i64 p.input), .ro 1 p.data.length ((p.data).map eb), .ro 1 p.funs.length ((p.funs).map ei), .ro 5 p.code.length ((p.code).map eIns)]] (look []) (.ro 1 ((places_s p).length) ((places_s p).map ei)) (postOf [] []) := by
  unfold places_s
  have := hp.1; have := hp.2.1; have := hp.2.2
  refine ok_head (T := [(2, .v (.slice none 0 0)), (3, .own 102), (10, .v (.int .i64 ((List.replicate p.code.length (0 : Int)).length : Int))), (11, .v (.int .i64 0))]) (H := [(101, .cells [.v (.int .i64 p.mem), .v (.int .i64 p.stack), .v (.int .i64 p.input), .ro 1 p.data.length ((p.data).map eb), .ro 1 p.funs.length ((p.funs).map ei), .ro 5 p.code.length ((p.code).map eIns)] 26), (102, .row 1 3 ((List.replicate p.code.length (0 : Int)).length) ((List.replicate p.code.length (0 : Int)).map ei))]) (todo := headAt Try.f59 0) Try.func59 rfl rfl mixed 400 [(0, .nm 101), (1003, .app 102 ((List.replicate p.code.length (0 : Int)).length) ((List.replicate p.code.length (0 : Int)).map ei))] (all4 (And.intro (show (0 : Int) ≤ (p.code.length : Int) by omega) (show ((p.code.length : Int) : Int) ≤ (p.code.length : Int) by omega)) (show ((p.code.length : Int) : Int) * 8 ≤ 281474976710656 by omega) (show ((p.code.length : Int) : Int) ≤ 9223372036854775807 by omega) (repE ei p.code.length 0)) (by kernel_rfl) ?_
  exact places_lok0 p hp _ 0 (List.replicate p.code.length (0 : Int)) (by omega) (by omega) (by (first | omega | (simp only [List.length_set, List.length_append, List.length_cons, List.length_nil, List.length_map, List.length_take, List.length_drop, List.length_replicate] <;> omega) | (simp only [List.length_set, List.length_append, List.length_cons, List.length_nil, List.length_map, List.length_take, List.length_drop, List.length_replicate] at * <;> omega))) (Nat.lt_succ_self _)

def forms_s  : List Form := ([(⟨⟨#[104, 97, 108, 116]⟩, 0⟩ : Form), (⟨⟨#[115, 101, 116]⟩, 17⟩ : Form), (⟨⟨#[99, 111, 112, 121]⟩, 3⟩ : Form), (⟨⟨#[97, 100, 100]⟩, 7⟩ : Form), (⟨⟨#[115, 117, 98]⟩, 7⟩ : Form), (⟨⟨#[109, 117, 108]⟩, 7⟩ : Form), (⟨⟨#[100, 105, 118]⟩, 7⟩ : Form), (⟨⟨#[114, 101, 109]⟩, 7⟩ : Form), (⟨⟨#[97, 110, 100]⟩, 7⟩ : Form), (⟨⟨#[111, 114]⟩, 7⟩ : Form), (⟨⟨#[120, 111, 114]⟩, 7⟩ : Form), (⟨⟨#[115, 104, 108]⟩, 7⟩ : Form), (⟨⟨#[115, 104, 114]⟩, 7⟩ : Form), (⟨⟨#[115, 97, 114]⟩, 7⟩ : Form), (⟨⟨#[115, 97, 109, 101]⟩, 7⟩ : Form), (⟨⟨#[108, 101, 115, 115]⟩, 7⟩ : Form), (⟨⟨#[98, 101, 108, 111, 119]⟩, 7⟩ : Form), (⟨⟨#[108, 111, 97, 100]⟩, 27⟩ : Form), (⟨⟨#[115, 97, 118, 101]⟩, 27⟩ : Form), (⟨⟨#[105, 110, 112, 117, 116]⟩, 19⟩ : Form), (⟨⟨#[108, 101, 110, 103, 116, 104]⟩, 1⟩ : Form), (⟨⟨#[106, 117, 109, 112]⟩, 16⟩ : Form), (⟨⟨#[98, 114, 97, 110, 99, 104]⟩, 17⟩ : Form), (⟨⟨#[99, 97, 108, 108]⟩, 16⟩ : Form), (⟨⟨#[98, 97, 99, 107]⟩, 0⟩ : Form), (⟨⟨#[102, 97, 105, 108]⟩, 0⟩ : Form)] : List Form)
set_option maxRecDepth 100000 in
theorem forms_ok   : Ok Try.prog 81 [] (look []) (.ro 2 ((forms_s ).length) ((forms_s ).map eForm)) (postOf [] []) := by
  unfold forms_s
  refine Ok.freeze1 (n := 101) (e := 104) (res := .own 101) ?_ rfl rfl
  exact ok_run (ch := [(101, .row 2 104 (([(⟨⟨#[104, 97, 108, 116]⟩, 0⟩ : Form), (⟨⟨#[115, 101, 116]⟩, 17⟩ : Form), (⟨⟨#[99, 111, 112, 121]⟩, 3⟩ : Form), (⟨⟨#[97, 100, 100]⟩, 7⟩ : Form), (⟨⟨#[115, 117, 98]⟩, 7⟩ : Form), (⟨⟨#[109, 117, 108]⟩, 7⟩ : Form), (⟨⟨#[100, 105, 118]⟩, 7⟩ : Form), (⟨⟨#[114, 101, 109]⟩, 7⟩ : Form), (⟨⟨#[97, 110, 100]⟩, 7⟩ : Form), (⟨⟨#[111, 114]⟩, 7⟩ : Form), (⟨⟨#[120, 111, 114]⟩, 7⟩ : Form), (⟨⟨#[115, 104, 108]⟩, 7⟩ : Form), (⟨⟨#[115, 104, 114]⟩, 7⟩ : Form), (⟨⟨#[115, 97, 114]⟩, 7⟩ : Form), (⟨⟨#[115, 97, 109, 101]⟩, 7⟩ : Form), (⟨⟨#[108, 101, 115, 115]⟩, 7⟩ : Form), (⟨⟨#[98, 101, 108, 111, 119]⟩, 7⟩ : Form), (⟨⟨#[108, 111, 97, 100]⟩, 27⟩ : Form), (⟨⟨#[115, 97, 118, 101]⟩, 27⟩ : Form), (⟨⟨#[105, 110, 112, 117, 116]⟩, 19⟩ : Form), (⟨⟨#[108, 101, 110, 103, 116, 104]⟩, 1⟩ : Form), (⟨⟨#[106, 117, 109, 112]⟩, 16⟩ : Form), (⟨⟨#[98, 114, 97, 110, 99, 104]⟩, 17⟩ : Form), (⟨⟨#[99, 97, 108, 108]⟩, 16⟩ : Form), (⟨⟨#[98, 97, 99, 107]⟩, 0⟩ : Form), (⟨⟨#[102, 97, 105, 108]⟩, 0⟩ : Form)] : List Form).length) (([(⟨⟨#[104, 97, 108, 116]⟩, 0⟩ : Form), (⟨⟨#[115, 101, 116]⟩, 17⟩ : Form), (⟨⟨#[99, 111, 112, 121]⟩, 3⟩ : Form), (⟨⟨#[97, 100, 100]⟩, 7⟩ : Form), (⟨⟨#[115, 117, 98]⟩, 7⟩ : Form), (⟨⟨#[109, 117, 108]⟩, 7⟩ : Form), (⟨⟨#[100, 105, 118]⟩, 7⟩ : Form), (⟨⟨#[114, 101, 109]⟩, 7⟩ : Form), (⟨⟨#[97, 110, 100]⟩, 7⟩ : Form), (⟨⟨#[111, 114]⟩, 7⟩ : Form), (⟨⟨#[120, 111, 114]⟩, 7⟩ : Form), (⟨⟨#[115, 104, 108]⟩, 7⟩ : Form), (⟨⟨#[115, 104, 114]⟩, 7⟩ : Form), (⟨⟨#[115, 97, 114]⟩, 7⟩ : Form), (⟨⟨#[115, 97, 109, 101]⟩, 7⟩ : Form), (⟨⟨#[108, 101, 115, 115]⟩, 7⟩ : Form), (⟨⟨#[98, 101, 108, 111, 119]⟩, 7⟩ : Form), (⟨⟨#[108, 111, 97, 100]⟩, 27⟩ : Form), (⟨⟨#[115, 97, 118, 101]⟩, 27⟩ : Form), (⟨⟨#[105, 110, 112, 117, 116]⟩, 19⟩ : Form), (⟨⟨#[108, 101, 110, 103, 116, 104]⟩, 1⟩ : Form), (⟨⟨#[106, 117, 109, 112]⟩, 16⟩ : Form), (⟨⟨#[98, 114, 97, 110, 99, 104]⟩, 17⟩ : Form), (⟨⟨#[99, 97, 108, 108]⟩, 16⟩ : Form), (⟨⟨#[98, 97, 99, 107]⟩, 0⟩ : Form), (⟨⟨#[102, 97, 105, 108]⟩, 0⟩ : Form)] : List Form).map eForm))]) Try.func81 rfl rfl mixed 400 [(1026, .app 101 (([(⟨⟨#[104, 97, 108, 116]⟩, 0⟩ : Form), (⟨⟨#[115, 101, 116]⟩, 17⟩ : Form), (⟨⟨#[99, 111, 112, 121]⟩, 3⟩ : Form), (⟨⟨#[97, 100, 100]⟩, 7⟩ : Form), (⟨⟨#[115, 117, 98]⟩, 7⟩ : Form), (⟨⟨#[109, 117, 108]⟩, 7⟩ : Form), (⟨⟨#[100, 105, 118]⟩, 7⟩ : Form), (⟨⟨#[114, 101, 109]⟩, 7⟩ : Form), (⟨⟨#[97, 110, 100]⟩, 7⟩ : Form), (⟨⟨#[111, 114]⟩, 7⟩ : Form), (⟨⟨#[120, 111, 114]⟩, 7⟩ : Form), (⟨⟨#[115, 104, 108]⟩, 7⟩ : Form), (⟨⟨#[115, 104, 114]⟩, 7⟩ : Form), (⟨⟨#[115, 97, 114]⟩, 7⟩ : Form), (⟨⟨#[115, 97, 109, 101]⟩, 7⟩ : Form), (⟨⟨#[108, 101, 115, 115]⟩, 7⟩ : Form), (⟨⟨#[98, 101, 108, 111, 119]⟩, 7⟩ : Form), (⟨⟨#[108, 111, 97, 100]⟩, 27⟩ : Form), (⟨⟨#[115, 97, 118, 101]⟩, 27⟩ : Form), (⟨⟨#[105, 110, 112, 117, 116]⟩, 19⟩ : Form), (⟨⟨#[108, 101, 110, 103, 116, 104]⟩, 1⟩ : Form), (⟨⟨#[106, 117, 109, 112]⟩, 16⟩ : Form), (⟨⟨#[98, 114, 97, 110, 99, 104]⟩, 17⟩ : Form), (⟨⟨#[99, 97, 108, 108]⟩, 16⟩ : Form), (⟨⟨#[98, 97, 99, 107]⟩, 0⟩ : Form), (⟨⟨#[102, 97, 105, 108]⟩, 0⟩ : Form)] : List Form).length) (([(⟨⟨#[104, 97, 108, 116]⟩, 0⟩ : Form), (⟨⟨#[115, 101, 116]⟩, 17⟩ : Form), (⟨⟨#[99, 111, 112, 121]⟩, 3⟩ : Form), (⟨⟨#[97, 100, 100]⟩, 7⟩ : Form), (⟨⟨#[115, 117, 98]⟩, 7⟩ : Form), (⟨⟨#[109, 117, 108]⟩, 7⟩ : Form), (⟨⟨#[100, 105, 118]⟩, 7⟩ : Form), (⟨⟨#[114, 101, 109]⟩, 7⟩ : Form), (⟨⟨#[97, 110, 100]⟩, 7⟩ : Form), (⟨⟨#[111, 114]⟩, 7⟩ : Form), (⟨⟨#[120, 111, 114]⟩, 7⟩ : Form), (⟨⟨#[115, 104, 108]⟩, 7⟩ : Form), (⟨⟨#[115, 104, 114]⟩, 7⟩ : Form), (⟨⟨#[115, 97, 114]⟩, 7⟩ : Form), (⟨⟨#[115, 97, 109, 101]⟩, 7⟩ : Form), (⟨⟨#[108, 101, 115, 115]⟩, 7⟩ : Form), (⟨⟨#[98, 101, 108, 111, 119]⟩, 7⟩ : Form), (⟨⟨#[108, 111, 97, 100]⟩, 27⟩ : Form), (⟨⟨#[115, 97, 118, 101]⟩, 27⟩ : Form), (⟨⟨#[105, 110, 112, 117, 116]⟩, 19⟩ : Form), (⟨⟨#[108, 101, 110, 103, 116, 104]⟩, 1⟩ : Form), (⟨⟨#[106, 117, 109, 112]⟩, 16⟩ : Form), (⟨⟨#[98, 114, 97, 110, 99, 104]⟩, 17⟩ : Form), (⟨⟨#[99, 97, 108, 108]⟩, 16⟩ : Form), (⟨⟨#[98, 97, 99, 107]⟩, 0⟩ : Form), (⟨⟨#[102, 97, 105, 108]⟩, 0⟩ : Form)] : List Form).map eForm))] (all1 (And.intro (Eq.refl (([(⟨⟨#[104, 97, 108, 116]⟩, 0⟩ : Form), (⟨⟨#[115, 101, 116]⟩, 17⟩ : Form), (⟨⟨#[99, 111, 112, 121]⟩, 3⟩ : Form), (⟨⟨#[97, 100, 100]⟩, 7⟩ : Form), (⟨⟨#[115, 117, 98]⟩, 7⟩ : Form), (⟨⟨#[109, 117, 108]⟩, 7⟩ : Form), (⟨⟨#[100, 105, 118]⟩, 7⟩ : Form), (⟨⟨#[114, 101, 109]⟩, 7⟩ : Form), (⟨⟨#[97, 110, 100]⟩, 7⟩ : Form), (⟨⟨#[111, 114]⟩, 7⟩ : Form), (⟨⟨#[120, 111, 114]⟩, 7⟩ : Form), (⟨⟨#[115, 104, 108]⟩, 7⟩ : Form), (⟨⟨#[115, 104, 114]⟩, 7⟩ : Form), (⟨⟨#[115, 97, 114]⟩, 7⟩ : Form), (⟨⟨#[115, 97, 109, 101]⟩, 7⟩ : Form), (⟨⟨#[108, 101, 115, 115]⟩, 7⟩ : Form), (⟨⟨#[98, 101, 108, 111, 119]⟩, 7⟩ : Form), (⟨⟨#[108, 111, 97, 100]⟩, 27⟩ : Form), (⟨⟨#[115, 97, 118, 101]⟩, 27⟩ : Form), (⟨⟨#[105, 110, 112, 117, 116]⟩, 19⟩ : Form), (⟨⟨#[108, 101, 110, 103, 116, 104]⟩, 1⟩ : Form), (⟨⟨#[106, 117, 109, 112]⟩, 16⟩ : Form), (⟨⟨#[98, 114, 97, 110, 99, 104]⟩, 17⟩ : Form), (⟨⟨#[99, 97, 108, 108]⟩, 16⟩ : Form), (⟨⟨#[98, 97, 99, 107]⟩, 0⟩ : Form), (⟨⟨#[102, 97, 105, 108]⟩, 0⟩ : Form)] : List Form).map eForm)) (Eq.refl (([(⟨⟨#[104, 97, 108, 116]⟩, 0⟩ : Form), (⟨⟨#[115, 101, 116]⟩, 17⟩ : Form), (⟨⟨#[99, 111, 112, 121]⟩, 3⟩ : Form), (⟨⟨#[97, 100, 100]⟩, 7⟩ : Form), (⟨⟨#[115, 117, 98]⟩, 7⟩ : Form), (⟨⟨#[109, 117, 108]⟩, 7⟩ : Form), (⟨⟨#[100, 105, 118]⟩, 7⟩ : Form), (⟨⟨#[114, 101, 109]⟩, 7⟩ : Form), (⟨⟨#[97, 110, 100]⟩, 7⟩ : Form), (⟨⟨#[111, 114]⟩, 7⟩ : Form), (⟨⟨#[120, 111, 114]⟩, 7⟩ : Form), (⟨⟨#[115, 104, 108]⟩, 7⟩ : Form), (⟨⟨#[115, 104, 114]⟩, 7⟩ : Form), (⟨⟨#[115, 97, 114]⟩, 7⟩ : Form), (⟨⟨#[115, 97, 109, 101]⟩, 7⟩ : Form), (⟨⟨#[108, 101, 115, 115]⟩, 7⟩ : Form), (⟨⟨#[98, 101, 108, 111, 119]⟩, 7⟩ : Form), (⟨⟨#[108, 111, 97, 100]⟩, 27⟩ : Form), (⟨⟨#[115, 97, 118, 101]⟩, 27⟩ : Form), (⟨⟨#[105, 110, 112, 117, 116]⟩, 19⟩ : Form), (⟨⟨#[108, 101, 110, 103, 116, 104]⟩, 1⟩ : Form), (⟨⟨#[106, 117, 109, 112]⟩, 16⟩ : Form), (⟨⟨#[98, 114, 97, 110, 99, 104]⟩, 17⟩ : Form), (⟨⟨#[99, 97, 108, 108]⟩, 16⟩ : Form), (⟨⟨#[98, 97, 99, 107]⟩, 0⟩ : Form), (⟨⟨#[102, 97, 105, 108]⟩, 0⟩ : Form)] : List Form).length)))) (by kernel_rfl)

def wrong_c4 (i : Ins) (wide : Bool) : Int := (bif wide then (bif i.a != ((kept_s i ((forms_s.getD ((i.op).toNat) default).has)).a) then (1 : Int) else (bif !(register_s i.a) then (1 : Int) else (bif i.b != ((kept_s i ((forms_s.getD ((i.op).toNat) default).has)).b) then (2 : Int) else (bif !(register_s i.b) then (2 : Int) else (bif i.c != ((kept_s i ((forms_s.getD ((i.op).toNat) default).has)).c) then (3 : Int) else (bif (Go.bits .and .i64 ((forms_s.getD ((i.op).toNat) default).has) 8) != (0 : Int) then (bif (Go.bits .and .i64 ((forms_s.getD ((i.op).toNat) default).has) 8) == (0 : Int) then (bif !(register_s i.c) then (3 : Int) else (bif !(i.op == ((kept_s i ((forms_s.getD ((i.op).toNat) default).has)).op) && (i.a == ((kept_s i ((forms_s.getD ((i.op).toNat) default).has)).a) && (i.b == ((kept_s i ((forms_s.getD ((i.op).toNat) default).has)).b) && (i.c == ((kept_s i ((forms_s.getD ((i.op).toNat) default).has)).c) && (i.imm == ((kept_s i ((forms_s.getD ((i.op).toNat) default).has)).imm)))))) then (4 : Int) else (0 : Int))) else (bif !(i.op == ((kept_s i ((forms_s.getD ((i.op).toNat) default).has)).op) && (i.a == ((kept_s i ((forms_s.getD ((i.op).toNat) default).has)).a) && (i.b == ((kept_s i ((forms_s.getD ((i.op).toNat) default).has)).b) && (i.c == ((kept_s i ((forms_s.getD ((i.op).toNat) default).has)).c) && (i.imm == ((kept_s i ((forms_s.getD ((i.op).toNat) default).has)).imm)))))) then (4 : Int) else (0 : Int))) else (bif (Go.bits .and .i64 ((forms_s.getD ((i.op).toNat) default).has) 8) == (0 : Int) then (bif !(register_s i.c) then (3 : Int) else (bif !(i.op == ((kept_s i ((forms_s.getD ((i.op).toNat) default).has)).op) && (i.a == ((kept_s i ((forms_s.getD ((i.op).toNat) default).has)).a) && (i.b == ((kept_s i ((forms_s.getD ((i.op).toNat) default).has)).b) && (i.c == ((kept_s i ((forms_s.getD ((i.op).toNat) default).has)).c) && (i.imm == ((kept_s i ((forms_s.getD ((i.op).toNat) default).has)).imm)))))) then (4 : Int) else (0 : Int))) else (bif !(i.op == ((kept_s i ((forms_s.getD ((i.op).toNat) default).has)).op) && (i.a == ((kept_s i ((forms_s.getD ((i.op).toNat) default).has)).a) && (i.b == ((kept_s i ((forms_s.getD ((i.op).toNat) default).has)).b) && (i.c == ((kept_s i ((forms_s.getD ((i.op).toNat) default).has)).c) && (i.imm == ((kept_s i ((forms_s.getD ((i.op).toNat) default).has)).imm)))))) then (4 : Int) else (0 : Int))))))))) else (bif i.a != ((kept_s i ((forms_s.getD ((i.op).toNat) default).has)).a) then (1 : Int) else (bif !(register_s i.a) then (1 : Int) else (bif i.b != ((kept_s i ((forms_s.getD ((i.op).toNat) default).has)).b) then (2 : Int) else (bif !(register_s i.b) then (2 : Int) else (bif i.c != ((kept_s i ((forms_s.getD ((i.op).toNat) default).has)).c) then (3 : Int) else (bif (Go.bits .and .i64 ((forms_s.getD ((i.op).toNat) default).has) 8) != (0 : Int) then (3 : Int) else (bif (Go.bits .and .i64 ((forms_s.getD ((i.op).toNat) default).has) 8) == (0 : Int) then (bif !(register_s i.c) then (3 : Int) else (bif !(i.op == ((kept_s i ((forms_s.getD ((i.op).toNat) default).has)).op) && (i.a == ((kept_s i ((forms_s.getD ((i.op).toNat) default).has)).a) && (i.b == ((kept_s i ((forms_s.getD ((i.op).toNat) default).has)).b) && (i.c == ((kept_s i ((forms_s.getD ((i.op).toNat) default).has)).c) && (i.imm == ((kept_s i ((forms_s.getD ((i.op).toNat) default).has)).imm)))))) then (4 : Int) else (0 : Int))) else (bif !(i.op == ((kept_s i ((forms_s.getD ((i.op).toNat) default).has)).op) && (i.a == ((kept_s i ((forms_s.getD ((i.op).toNat) default).has)).a) && (i.b == ((kept_s i ((forms_s.getD ((i.op).toNat) default).has)).b) && (i.c == ((kept_s i ((forms_s.getD ((i.op).toNat) default).has)).c) && (i.imm == ((kept_s i ((forms_s.getD ((i.op).toNat) default).has)).imm)))))) then (4 : Int) else (0 : Int))))))))))
set_option maxRecDepth 100000 in
theorem wrong_c4ok (i : Ins) (h0 : 0 ≤ i.op) (h1 : i.op < 26) (wide : Bool)  : Good Try.prog 57 Try.f57.ntmps (look []) false (.v (.int .i64 (wrong_c4 i wide))) (postOf [] []) (cutAt Try.f57 4) [(1, .ptr 101 0), (2, .v (.int .i64 0)), (3, .v (.int .i64 ((forms_s.getD ((i.op).toNat) default).has))), (4, .ptr 102 0), (5, .v (.bool wide))] [(101, .cells [.v (.int .i64 i.op), .v (.int .i64 i.a), .v (.int .i64 i.b), .v (.int .i64 i.c), .v (.int .u64 i.imm)] 41), (102, .cells [.v (.int .i64 ((kept_s i ((forms_s.getD ((i.op).toNat) default).has)).op)), .v (.int .i64 ((kept_s i ((forms_s.getD ((i.op).toNat) default).has)).a)), .v (.int .i64 ((kept_s i ((forms_s.getD ((i.op).toNat) default).has)).b)), .v (.int .i64 ((kept_s i ((forms_s.getD ((i.op).toNat) default).has)).c)), .v (.int .u64 ((kept_s i ((forms_s.getD ((i.op).toNat) default).has)).imm))] 41)] := by
  have hf : forms_s.length = 26 := rfl
  unfold wrong_c4
  cases wide
  · cases h4004 : (i.a != ((kept_s i ((forms_s.getD ((i.op).toNat) default).has)).a))
    · have p4004 := bne_eq_false_iff_eq.1 h4004
      cases h4009 : (!(register_s i.a))
      · have p4009 := notF h4009
        cases h6004 : (i.b != ((kept_s i ((forms_s.getD ((i.op).toNat) default).has)).b))
        · have p6004 := bne_eq_false_iff_eq.1 h6004
          cases h6009 : (!(register_s i.b))
          · have p6009 := notF h6009
            cases h8004 : (i.c != ((kept_s i ((forms_s.getD ((i.op).toNat) default).has)).c))
            · have p8004 := bne_eq_false_iff_eq.1 h8004
              cases h8008 : ((Go.bits .and .i64 ((forms_s.getD ((i.op).toNat) default).has) 8) != (0 : Int))
              · have p8008 := bne_eq_false_iff_eq.1 h8008
                cases h8017 : ((Go.bits .and .i64 ((forms_s.getD ((i.op).toNat) default).has) 8) == (0 : Int))
                · have p8017 := ne_of_beq_false h8017
                  cases h10002 : (!(i.op == ((kept_s i ((forms_s.getD ((i.op).toNat) default).has)).op) && (i.a == ((kept_s i ((forms_s.getD ((i.op).toNat) default).has)).a) && (i.b == ((kept_s i ((forms_s.getD ((i.op).toNat) default).has)).b) && (i.c == ((kept_s i ((forms_s.getD ((i.op).toNat) default).has)).c) && (i.imm == ((kept_s i ((forms_s.getD ((i.op).toNat) default).has)).imm)))))))
                  · have p10002 := notF h10002
                    exact good_run Try.func57 mixed 400 [(4004, .b false), (4008, .call [] [] (.v (.bool (register_s i.a)))), (4009, .b false), (6004, .b false), (6008, .call [] [] (.v (.bool (register_s i.b)))), (6009, .b false), (8004, .b false), (8008, .b false), (8017, .b false), (10002, .b false)] (.cons h4004 (.cons (register_ok i.a ) (all8 h4009 h6004 (register_ok i.b ) h6009 h8004 h8008 h8017 h10002))) (by kernel_rfl)
                  · have p10002 := notT h10002
                    exact good_run Try.func57 mixed 400 [(4004, .b false), (4008, .call [] [] (.v (.bool (register_s i.a)))), (4009, .b false), (6004, .b false), (6008, .call [] [] (.v (.bool (register_s i.b)))), (6009, .b false), (8004, .b false), (8008, .b false), (8017, .b false), (10002, .b true)] (.cons h4004 (.cons (register_ok i.a ) (all8 h4009 h6004 (register_ok i.b ) h6009 h8004 h8008 h8017 h10002))) (by kernel_rfl)
                · have p8017 := eq_of_beq h8017
                  cases h8022 : (!(register_s i.c))
                  · have p8022 := notF h8022
                    cases h10002 : (!(i.op == ((kept_s i ((forms_s.getD ((i.op).toNat) default).has)).op) && (i.a == ((kept_s i ((forms_s.getD ((i.op).toNat) default).has)).a) && (i.b == ((kept_s i ((forms_s.getD ((i.op).toNat) default).has)).b) && (i.c == ((kept_s i ((forms_s.getD ((i.op).toNat) default).has)).c) && (i.imm == ((kept_s i ((forms_s.getD ((i.op).toNat) default).has)).imm)))))))
                    · have p10002 := notF h10002
                      exact good_run Try.func57 mixed 400 [(4004, .b false), (4008, .call [] [] (.v (.bool (register_s i.a)))), (4009, .b false), (6004, .b false), (6008, .call [] [] (.v (.bool (register_s i.b)))), (6009, .b false), (8004, .b false), (8008, .b false), (8017, .b true), (8021, .call [] [] (.v (.bool (register_s i.c)))), (8022, .b false), (10002, .b false)] (.cons h4004 (.cons (register_ok i.a ) (.cons h4009 (.cons h6004 (all8 (register_ok i.b ) h6009 h8004 h8008 h8017 (register_ok i.c ) h8022 h10002))))) (by kernel_rfl)
                    · have p10002 := notT h10002
                      exact good_run Try.func57 mixed 400 [(4004, .b false), (4008, .call [] [] (.v (.bool (register_s i.a)))), (4009, .b false), (6004, .b false), (6008, .call [] [] (.v (.bool (register_s i.b)))), (6009, .b false), (8004, .b false), (8008, .b false), (8017, .b true), (8021, .call [] [] (.v (.bool (register_s i.c)))), (8022, .b false), (10002, .b true)] (.cons h4004 (.cons (register_ok i.a ) (.cons h4009 (.cons h6004 (all8 (register_ok i.b ) h6009 h8004 h8008 h8017 (register_ok i.c ) h8022 h10002))))) (by kernel_rfl)
                  · have p8022 := notT h8022
                    exact good_run Try.func57 mixed 400 [(4004, .b false), (4008, .call [] [] (.v (.bool (register_s i.a)))), (4009, .b false), (6004, .b false), (6008, .call [] [] (.v (.bool (register_s i.b)))), (6009, .b false), (8004, .b false), (8008, .b false), (8017, .b true), (8021, .call [] [] (.v (.bool (register_s i.c)))), (8022, .b true)] (.cons h4004 (.cons (register_ok i.a ) (.cons h4009 (all8 h6004 (register_ok i.b ) h6009 h8004 h8008 h8017 (register_ok i.c ) h8022)))) (by kernel_rfl)
              · have p8008 := bne_iff_ne.1 h8008
                exact good_run Try.func57 mixed 400 [(4004, .b false), (4008, .call [] [] (.v (.bool (register_s i.a)))), (4009, .b false), (6004, .b false), (6008, .call [] [] (.v (.bool (register_s i.b)))), (6009, .b false), (8004, .b false), (8008, .b true)] (all8 h4004 (register_ok i.a ) h4009 h6004 (register_ok i.b ) h6009 h8004 h8008) (by kernel_rfl)
            · have p8004 := bne_iff_ne.1 h8004
              exact good_run Try.func57 mixed 400 [(4004, .b false), (4008, .call [] [] (.v (.bool (register_s i.a)))), (4009, .b false), (6004, .b false), (6008, .call [] [] (.v (.bool (register_s i.b)))), (6009, .b false), (8004, .b true)] (all7 h4004 (register_ok i.a ) h4009 h6004 (register_ok i.b ) h6009 h8004) (by kernel_rfl)
          · have p6009 := notT h6009
            exact good_run Try.func57 mixed 400 [(4004, .b false), (4008, .call [] [] (.v (.bool (register_s i.a)))), (4009, .b false), (6004, .b false), (6008, .call [] [] (.v (.bool (register_s i.b)))), (6009, .b true)] (all6 h4004 (register_ok i.a ) h4009 h6004 (register_ok i.b ) h6009) (by kernel_rfl)
        · have p6004 := bne_iff_ne.1 h6004
          exact good_run Try.func57 mixed 400 [(4004, .b false), (4008, .call [] [] (.v (.bool (register_s i.a)))), (4009, .b false), (6004, .b true)] (all4 h4004 (register_ok i.a ) h4009 h6004) (by kernel_rfl)
      · have p4009 := notT h4009
        exact good_run Try.func57 mixed 400 [(4004, .b false), (4008, .call [] [] (.v (.bool (register_s i.a)))), (4009, .b true)] (all3 h4004 (register_ok i.a ) h4009) (by kernel_rfl)
    · have p4004 := bne_iff_ne.1 h4004
      exact good_run Try.func57 mixed 400 [(4004, .b true)] (all1 h4004) (by kernel_rfl)
  · cases h4004 : (i.a != ((kept_s i ((forms_s.getD ((i.op).toNat) default).has)).a))
    · have p4004 := bne_eq_false_iff_eq.1 h4004
      cases h4009 : (!(register_s i.a))
      · have p4009 := notF h4009
        cases h6004 : (i.b != ((kept_s i ((forms_s.getD ((i.op).toNat) default).has)).b))
        · have p6004 := bne_eq_false_iff_eq.1 h6004
          cases h6009 : (!(register_s i.b))
          · have p6009 := notF h6009
            cases h8004 : (i.c != ((kept_s i ((forms_s.getD ((i.op).toNat) default).has)).c))
            · have p8004 := bne_eq_false_iff_eq.1 h8004
              cases h8008 : ((Go.bits .and .i64 ((forms_s.getD ((i.op).toNat) default).has) 8) != (0 : Int))
              · have p8008 := bne_eq_false_iff_eq.1 h8008
                cases h8017 : ((Go.bits .and .i64 ((forms_s.getD ((i.op).toNat) default).has) 8) == (0 : Int))
                · have p8017 := ne_of_beq_false h8017
                  cases h10002 : (!(i.op == ((kept_s i ((forms_s.getD ((i.op).toNat) default).has)).op) && (i.a == ((kept_s i ((forms_s.getD ((i.op).toNat) default).has)).a) && (i.b == ((kept_s i ((forms_s.getD ((i.op).toNat) default).has)).b) && (i.c == ((kept_s i ((forms_s.getD ((i.op).toNat) default).has)).c) && (i.imm == ((kept_s i ((forms_s.getD ((i.op).toNat) default).has)).imm)))))))
                  · have p10002 := notF h10002
                    exact good_run Try.func57 mixed 400 [(4004, .b false), (4008, .call [] [] (.v (.bool (register_s i.a)))), (4009, .b false), (6004, .b false), (6008, .call [] [] (.v (.bool (register_s i.b)))), (6009, .b false), (8004, .b false), (8008, .b false), (8017, .b false), (10002, .b false)] (.cons h4004 (.cons (register_ok i.a ) (all8 h4009 h6004 (register_ok i.b ) h6009 h8004 h8008 h8017 h10002))) (by kernel_rfl)
                  · have p10002 := notT h10002
                    exact good_run Try.func57 mixed 400 [(4004, .b false), (4008, .call [] [] (.v (.bool (register_s i.a)))), (4009, .b false), (6004, .b false), (6008, .call [] [] (.v (.bool (register_s i.b)))), (6009, .b false), (8004, .b false), (8008, .b false), (8017, .b false), (10002, .b true)] (.cons h4004 (.cons (register_ok i.a ) (all8 h4009 h6004 (register_ok i.b ) h6009 h8004 h8008 h8017 h10002))) (by kernel_rfl)
                · have p8017 := eq_of_beq h8017
                  cases h8022 : (!(register_s i.c))
                  · have p8022 := notF h8022
                    cases h10002 : (!(i.op == ((kept_s i ((forms_s.getD ((i.op).toNat) default).has)).op) && (i.a == ((kept_s i ((forms_s.getD ((i.op).toNat) default).has)).a) && (i.b == ((kept_s i ((forms_s.getD ((i.op).toNat) default).has)).b) && (i.c == ((kept_s i ((forms_s.getD ((i.op).toNat) default).has)).c) && (i.imm == ((kept_s i ((forms_s.getD ((i.op).toNat) default).has)).imm)))))))
                    · have p10002 := notF h10002
                      exact good_run Try.func57 mixed 400 [(4004, .b false), (4008, .call [] [] (.v (.bool (register_s i.a)))), (4009, .b false), (6004, .b false), (6008, .call [] [] (.v (.bool (register_s i.b)))), (6009, .b false), (8004, .b false), (8008, .b false), (8017, .b true), (8021, .call [] [] (.v (.bool (register_s i.c)))), (8022, .b false), (10002, .b false)] (.cons h4004 (.cons (register_ok i.a ) (.cons h4009 (.cons h6004 (all8 (register_ok i.b ) h6009 h8004 h8008 h8017 (register_ok i.c ) h8022 h10002))))) (by kernel_rfl)
                    · have p10002 := notT h10002
                      exact good_run Try.func57 mixed 400 [(4004, .b false), (4008, .call [] [] (.v (.bool (register_s i.a)))), (4009, .b false), (6004, .b false), (6008, .call [] [] (.v (.bool (register_s i.b)))), (6009, .b false), (8004, .b false), (8008, .b false), (8017, .b true), (8021, .call [] [] (.v (.bool (register_s i.c)))), (8022, .b false), (10002, .b true)] (.cons h4004 (.cons (register_ok i.a ) (.cons h4009 (.cons h6004 (all8 (register_ok i.b ) h6009 h8004 h8008 h8017 (register_ok i.c ) h8022 h10002))))) (by kernel_rfl)
                  · have p8022 := notT h8022
                    exact good_run Try.func57 mixed 400 [(4004, .b false), (4008, .call [] [] (.v (.bool (register_s i.a)))), (4009, .b false), (6004, .b false), (6008, .call [] [] (.v (.bool (register_s i.b)))), (6009, .b false), (8004, .b false), (8008, .b false), (8017, .b true), (8021, .call [] [] (.v (.bool (register_s i.c)))), (8022, .b true)] (.cons h4004 (.cons (register_ok i.a ) (.cons h4009 (all8 h6004 (register_ok i.b ) h6009 h8004 h8008 h8017 (register_ok i.c ) h8022)))) (by kernel_rfl)
              · have p8008 := bne_iff_ne.1 h8008
                cases h8017 : ((Go.bits .and .i64 ((forms_s.getD ((i.op).toNat) default).has) 8) == (0 : Int))
                · have p8017 := ne_of_beq_false h8017
                  cases h10002 : (!(i.op == ((kept_s i ((forms_s.getD ((i.op).toNat) default).has)).op) && (i.a == ((kept_s i ((forms_s.getD ((i.op).toNat) default).has)).a) && (i.b == ((kept_s i ((forms_s.getD ((i.op).toNat) default).has)).b) && (i.c == ((kept_s i ((forms_s.getD ((i.op).toNat) default).has)).c) && (i.imm == ((kept_s i ((forms_s.getD ((i.op).toNat) default).has)).imm)))))))
                  · have p10002 := notF h10002
                    exact good_run Try.func57 mixed 400 [(4004, .b false), (4008, .call [] [] (.v (.bool (register_s i.a)))), (4009, .b false), (6004, .b false), (6008, .call [] [] (.v (.bool (register_s i.b)))), (6009, .b false), (8004, .b false), (8008, .b true), (8017, .b false), (10002, .b false)] (.cons h4004 (.cons (register_ok i.a ) (all8 h4009 h6004 (register_ok i.b ) h6009 h8004 h8008 h8017 h10002))) (by kernel_rfl)
                  · have p10002 := notT h10002
                    exact good_run Try.func57 mixed 400 [(4004, .b false), (4008, .call [] [] (.v (.bool (register_s i.a)))), (4009, .b false), (6004, .b false), (6008, .call [] [] (.v (.bool (register_s i.b)))), (6009, .b false), (8004, .b false), (8008, .b true), (8017, .b false), (10002, .b true)] (.cons h4004 (.cons (register_ok i.a ) (all8 h4009 h6004 (register_ok i.b ) h6009 h8004 h8008 h8017 h10002))) (by kernel_rfl)
                · have p8017 := eq_of_beq h8017
                  cases h8022 : (!(register_s i.c))
                  · have p8022 := notF h8022
                    cases h10002 : (!(i.op == ((kept_s i ((forms_s.getD ((i.op).toNat) default).has)).op) && (i.a == ((kept_s i ((forms_s.getD ((i.op).toNat) default).has)).a) && (i.b == ((kept_s i ((forms_s.getD ((i.op).toNat) default).has)).b) && (i.c == ((kept_s i ((forms_s.getD ((i.op).toNat) default).has)).c) && (i.imm == ((kept_s i ((forms_s.getD ((i.op).toNat) default).has)).imm)))))))
                    · have p10002 := notF h10002
                      exact good_run Try.func57 mixed 400 [(4004, .b false), (4008, .call [] [] (.v (.bool (register_s i.a)))), (4009, .b false), (6004, .b false), (6008, .call [] [] (.v (.bool (register_s i.b)))), (6009, .b false), (8004, .b false), (8008, .b true), (8017, .b true), (8021, .call [] [] (.v (.bool (register_s i.c)))), (8022, .b false), (10002, .b false)] (.cons h4004 (.cons (register_ok i.a ) (.cons h4009 (.cons h6004 (all8 (register_ok i.b ) h6009 h8004 h8008 h8017 (register_ok i.c ) h8022 h10002))))) (by kernel_rfl)
                    · have p10002 := notT h10002
                      exact good_run Try.func57 mixed 400 [(4004, .b false), (4008, .call [] [] (.v (.bool (register_s i.a)))), (4009, .b false), (6004, .b false), (6008, .call [] [] (.v (.bool (register_s i.b)))), (6009, .b false), (8004, .b false), (8008, .b true), (8017, .b true), (8021, .call [] [] (.v (.bool (register_s i.c)))), (8022, .b false), (10002, .b true)] (.cons h4004 (.cons (register_ok i.a ) (.cons h4009 (.cons h6004 (all8 (register_ok i.b ) h6009 h8004 h8008 h8017 (register_ok i.c ) h8022 h10002))))) (by kernel_rfl)
                  · have p8022 := notT h8022
                    exact good_run Try.func57 mixed 400 [(4004, .b false), (4008, .call [] [] (.v (.bool (register_s i.a)))), (4009, .b false), (6004, .b false), (6008, .call [] [] (.v (.bool (register_s i.b)))), (6009, .b false), (8004, .b false), (8008, .b true), (8017, .b true), (8021, .call [] [] (.v (.bool (register_s i.c)))), (8022, .b true)] (.cons h4004 (.cons (register_ok i.a ) (.cons h4009 (all8 h6004 (register_ok i.b ) h6009 h8004 h8008 h8017 (register_ok i.c ) h8022)))) (by kernel_rfl)
            · have p8004 := bne_iff_ne.1 h8004
              exact good_run Try.func57 mixed 400 [(4004, .b false), (4008, .call [] [] (.v (.bool (register_s i.a)))), (4009, .b false), (6004, .b false), (6008, .call [] [] (.v (.bool (register_s i.b)))), (6009, .b false), (8004, .b true)] (all7 h4004 (register_ok i.a ) h4009 h6004 (register_ok i.b ) h6009 h8004) (by kernel_rfl)
          · have p6009 := notT h6009
            exact good_run Try.func57 mixed 400 [(4004, .b false), (4008, .call [] [] (.v (.bool (register_s i.a)))), (4009, .b false), (6004, .b false), (6008, .call [] [] (.v (.bool (register_s i.b)))), (6009, .b true)] (all6 h4004 (register_ok i.a ) h4009 h6004 (register_ok i.b ) h6009) (by kernel_rfl)
        · have p6004 := bne_iff_ne.1 h6004
          exact good_run Try.func57 mixed 400 [(4004, .b false), (4008, .call [] [] (.v (.bool (register_s i.a)))), (4009, .b false), (6004, .b true)] (all4 h4004 (register_ok i.a ) h4009 h6004) (by kernel_rfl)
      · have p4009 := notT h4009
        exact good_run Try.func57 mixed 400 [(4004, .b false), (4008, .call [] [] (.v (.bool (register_s i.a)))), (4009, .b true)] (all3 h4004 (register_ok i.a ) h4009) (by kernel_rfl)
    · have p4004 := bne_iff_ne.1 h4004
      exact good_run Try.func57 mixed 400 [(4004, .b true)] (all1 h4004) (by kernel_rfl)
def wrong_s (i : Ins) : Int := (bif i.c == (1 : Int) then (wrong_c4 i true) else (bif i.c == (2 : Int) then (wrong_c4 i true) else (bif i.c == (4 : Int) then (wrong_c4 i true) else (wrong_c4 i (i.c == (8 : Int))))))
set_option maxRecDepth 100000 in
theorem wrong_ok (i : Ins) (h0 : 0 ≤ i.op) (h1 : i.op < 26) : Ok Try.prog 57 [.agg [.v (.int .i64 i.op), .v (.int .i64 i.a), .v (.int .i64 i.b), .v (.int .i64 i.c), .v (.int .u64 i.imm)]] (look []) (.v (.int .i64 (wrong_s i))) (postOf [] []) := by
  unfold wrong_s
  have hf : forms_s.length = 26 := rfl
  cases h3002 : (i.c == (1 : Int))
  · have p3002 := ne_of_beq_false h3002
    cases h3006 : (i.c == (2 : Int))
    · have p3006 := ne_of_beq_false h3006
      cases h3011 : (i.c == (4 : Int))
      · have p3011 := ne_of_beq_false h3011
        refine ok_head (T := [(1, .ptr 101 0), (2, .v (.int .i64 0)), (3, .v (.int .i64 ((forms_s.getD ((i.op).toNat) default).has))), (4, .ptr 102 0), (5, .v (.bool (i.c == (8 : Int))))]) (H := [(101, .cells [.v (.int .i64 i.op), .v (.int .i64 i.a), .v (.int .i64 i.b), .v (.int .i64 i.c), .v (.int .u64 i.imm)] 41), (102, .cells [.v (.int .i64 ((kept_s i ((forms_s.getD ((i.op).toNat) default).has)).op)), .v (.int .i64 ((kept_s i ((forms_s.getD ((i.op).toNat) default).has)).a)), .v (.int .i64 ((kept_s i ((forms_s.getD ((i.op).toNat) default).has)).b)), .v (.int .i64 ((kept_s i ((forms_s.getD ((i.op).toNat) default).has)).c)), .v (.int .u64 ((kept_s i ((forms_s.getD ((i.op).toNat) default).has)).imm))] 41)]) (todo := cutAt Try.f57 4) Try.func57 rfl rfl mixed 400 [(0, .nm 101), (1000, .call [] [] (.ro 2 forms_s.length ((forms_s).map eForm))), (1003, .el (eForm (forms_s.getD ((i.op).toNat) default))), (2002, .call [] [] (.agg [.v (.int .i64 ((kept_s i ((forms_s.getD ((i.op).toNat) default).has)).op)), .v (.int .i64 ((kept_s i ((forms_s.getD ((i.op).toNat) default).has)).a)), .v (.int .i64 ((kept_s i ((forms_s.getD ((i.op).toNat) default).has)).b)), .v (.int .i64 ((kept_s i ((forms_s.getD ((i.op).toNat) default).has)).c)), .v (.int .u64 ((kept_s i ((forms_s.getD ((i.op).toNat) default).has)).imm))])), (2003, .nm 102), (3002, .b false), (3006, .b false), (3011, .b false), (4999, .b true)] (all7 forms_ok (show (0 : Int) ≤ i.op by omega) (getg (l := forms_s) (n := (i.op).toNat) eForm default (by omega)) (kept_ok i ((forms_s.getD ((i.op).toNat) default).has)) h3002 h3006 h3011) (by kernel_rfl) ?_
        exact wrong_c4ok i h0 h1 (i.c == (8 : Int)) 
      · have p3011 := eq_of_beq h3011
        refine ok_head (T := [(1, .ptr 101 0), (2, .v (.int .i64 0)), (3, .v (.int .i64 ((forms_s.getD ((i.op).toNat) default).has))), (4, .ptr 102 0), (5, .v (.bool true))]) (H := [(101, .cells [.v (.int .i64 i.op), .v (.int .i64 i.a), .v (.int .i64 i.b), .v (.int .i64 i.c), .v (.int .u64 i.imm)] 41), (102, .cells [.v (.int .i64 ((kept_s i ((forms_s.getD ((i.op).toNat) default).has)).op)), .v (.int .i64 ((kept_s i ((forms_s.getD ((i.op).toNat) default).has)).a)), .v (.int .i64 ((kept_s i ((forms_s.getD ((i.op).toNat) default).has)).b)), .v (.int .i64 ((kept_s i ((forms_s.getD ((i.op).toNat) default).has)).c)), .v (.int .u64 ((kept_s i ((forms_s.getD ((i.op).toNat) default).has)).imm))] 41)]) (todo := cutAt Try.f57 4) Try.func57 rfl rfl mixed 400 [(0, .nm 101), (1000, .call [] [] (.ro 2 forms_s.length ((forms_s).map eForm))), (1003, .el (eForm (forms_s.getD ((i.op).toNat) default))), (2002, .call [] [] (.agg [.v (.int .i64 ((kept_s i ((forms_s.getD ((i.op).toNat) default).has)).op)), .v (.int .i64 ((kept_s i ((forms_s.getD ((i.op).toNat) default).has)).a)), .v (.int .i64 ((kept_s i ((forms_s.getD ((i.op).toNat) default).has)).b)), .v (.int .i64 ((kept_s i ((forms_s.getD ((i.op).toNat) default).has)).c)), .v (.int .u64 ((kept_s i ((forms_s.getD ((i.op).toNat) default).has)).imm))])), (2003, .nm 102), (3002, .b false), (3006, .b false), (3011, .b true), (4999, .b true)] (all7 forms_ok (show (0 : Int) ≤ i.op by omega) (getg (l := forms_s) (n := (i.op).toNat) eForm default (by omega)) (kept_ok i ((forms_s.getD ((i.op).toNat) default).has)) h3002 h3006 h3011) (by kernel_rfl) ?_
        exact wrong_c4ok i h0 h1 true 
    · have p3006 := eq_of_beq h3006
      refine ok_head (T := [(1, .ptr 101 0), (2, .v (.int .i64 0)), (3, .v (.int .i64 ((forms_s.getD ((i.op).toNat) default).has))), (4, .ptr 102 0), (5, .v (.bool true))]) (H := [(101, .cells [.v (.int .i64 i.op), .v (.int .i64 i.a), .v (.int .i64 i.b), .v (.int .i64 i.c), .v (.int .u64 i.imm)] 41), (102, .cells [.v (.int .i64 ((kept_s i ((forms_s.getD ((i.op).toNat) default).has)).op)), .v (.int .i64 ((kept_s i ((forms_s.getD ((i.op).toNat) default).has)).a)), .v (.int .i64 ((kept_s i ((forms_s.getD ((i.op).toNat) default).has)).b)), .v (.int .i64 ((kept_s i ((forms_s.getD ((i.op).toNat) default).has)).c)), .v (.int .u64 ((kept_s i ((forms_s.getD ((i.op).toNat) default).has)).imm))] 41)]) (todo := cutAt Try.f57 4) Try.func57 rfl rfl mixed 400 [(0, .nm 101), (1000, .call [] [] (.ro 2 forms_s.length ((forms_s).map eForm))), (1003, .el (eForm (forms_s.getD ((i.op).toNat) default))), (2002, .call [] [] (.agg [.v (.int .i64 ((kept_s i ((forms_s.getD ((i.op).toNat) default).has)).op)), .v (.int .i64 ((kept_s i ((forms_s.getD ((i.op).toNat) default).has)).a)), .v (.int .i64 ((kept_s i ((forms_s.getD ((i.op).toNat) default).has)).b)), .v (.int .i64 ((kept_s i ((forms_s.getD ((i.op).toNat) default).has)).c)), .v (.int .u64 ((kept_s i ((forms_s.getD ((i.op).toNat) default).has)).imm))])), (2003, .nm 102), (3002, .b false), (3006, .b true), (4999, .b true)] (all6 forms_ok (show (0 : Int) ≤ i.op by omega) (getg (l := forms_s) (n := (i.op).toNat) eForm default (by omega)) (kept_ok i ((forms_s.getD ((i.op).toNat) default).has)) h3002 h3006) (by kernel_rfl) ?_
      exact wrong_c4ok i h0 h1 true 
  · have p3002 := eq_of_beq h3002
    refine ok_head (T := [(1, .ptr 101 0), (2, .v (.int .i64 0)), (3, .v (.int .i64 ((forms_s.getD ((i.op).toNat) default).has))), (4, .ptr 102 0), (5, .v (.bool true))]) (H := [(101, .cells [.v (.int .i64 i.op), .v (.int .i64 i.a), .v (.int .i64 i.b), .v (.int .i64 i.c), .v (.int .u64 i.imm)] 41), (102, .cells [.v (.int .i64 ((kept_s i ((forms_s.getD ((i.op).toNat) default).has)).op)), .v (.int .i64 ((kept_s i ((forms_s.getD ((i.op).toNat) default).has)).a)), .v (.int .i64 ((kept_s i ((forms_s.getD ((i.op).toNat) default).has)).b)), .v (.int .i64 ((kept_s i ((forms_s.getD ((i.op).toNat) default).has)).c)), .v (.int .u64 ((kept_s i ((forms_s.getD ((i.op).toNat) default).has)).imm))] 41)]) (todo := cutAt Try.f57 4) Try.func57 rfl rfl mixed 400 [(0, .nm 101), (1000, .call [] [] (.ro 2 forms_s.length ((forms_s).map eForm))), (1003, .el (eForm (forms_s.getD ((i.op).toNat) default))), (2002, .call [] [] (.agg [.v (.int .i64 ((kept_s i ((forms_s.getD ((i.op).toNat) default).has)).op)), .v (.int .i64 ((kept_s i ((forms_s.getD ((i.op).toNat) default).has)).a)), .v (.int .i64 ((kept_s i ((forms_s.getD ((i.op).toNat) default).has)).b)), .v (.int .i64 ((kept_s i ((forms_s.getD ((i.op).toNat) default).has)).c)), .v (.int .u64 ((kept_s i ((forms_s.getD ((i.op).toNat) default).has)).imm))])), (2003, .nm 102), (3002, .b true), (4999, .b true)] (all5 forms_ok (show (0 : Int) ≤ i.op by omega) (getg (l := forms_s) (n := (i.op).toNat) eForm default (by omega)) (kept_ok i ((forms_s.getD ((i.op).toNat) default).has)) h3002) (by kernel_rfl) ?_
    exact wrong_c4ok i h0 h1 true 

theorem known_t {n : Int} (h : known_s n = true) : 0 ≤ n ∧ n < 26 := by
  unfold known_s at h
  cases h1 : decide (n ≥ (0 : Int)) with
  | false => rw [h1] at h; cases h
  | true =>
    rw [h1] at h
    have h2 := of_decide_eq_true h1
    have h3 := of_decide_eq_true (show decide (n ≤ (25 : Int)) = true from h)
    omega

def put_l0 (i : Ins) : Nat → Int → List Int → List Int × Int
  | 0, _, _ => default
  | m + 1, at_, out => (bif decide (at_ ≥ (0 : Int)) then (put_l0 i m (at_ - 8) (out ++ ([IntKind.u8.wrap (i.imm.fdiv (2 ^ min ((at_).toNat) 64))] : List Int))) else (out, (0 : Int)))
set_option maxRecDepth 100000 in
theorem put_lok0 (i : Ins)  : ∀ (m : Nat) (at_ : Int) (out : List Int), (-8 ≤ at_) → (at_ ≤ 56) → (8 * (out.length : Int) + at_ = 88) → ((at_ : Int) + 8).toNat < m → Good Try.prog 35 Try.f35.ntmps (look []) false (.tup [.ro 1 (((put_l0 i m at_ out).1).length) (((put_l0 i m at_ out).1).map eb), .v (.int .i64 ((put_l0 i m at_ out).2))]) (postOf [] []) (headAt Try.f35 0) [(1, .ptr 101 0), (2, .v (.slice none 0 0)), (3, .v (.int .i64 0)), (4, .own 102), (5, .v (.int .i64 at_))] [(101, .cells [.v (.int .i64 i.op), .v (.int .i64 i.a), .v (.int .i64 i.b), .v (.int .i64 i.c), .v (.int .u64 i.imm)] 41), (102, .row 1 5 out.length ((out).map eb))] := by
  intro m
  induction m with
  | zero => intro at_ out i1 i2 i3 hm; exact absurd hm (Nat.not_lt_zero _)
  | succ m ih =>
    intro at_ out i1 i2 i3 hm
    rw [put_l0]
    cases h7001 : (decide (at_ ≥ (0 : Int)))
    · have p7001 := of_decide_eq_false h7001
      refine Good.freeze (n := 102) (by rfl) ?_
      exact good_run Try.func35 mixed 400 [(7001, .b false)] (all1 h7001) (by kernel_rfl)
    · have p7001 := of_decide_eq_true h7001
      refine good_head (T := [(1, .ptr 101 0), (2, .v (.slice none 0 0)), (3, .v (.int .i64 0)), (4, .own 152), (5, .v (.int .i64 (at_ - 8)))]) (H := [(101, .cells [.v (.int .i64 i.op), .v (.int .i64 i.a), .v (.int .i64 i.b), .v (.int .i64 i.c), .v (.int .u64 i.imm)] 41), (152, .row 1 5 ((out ++ ([IntKind.u8.wrap (i.imm.fdiv (2 ^ min ((at_).toNat) 64))] : List Int)).length) ((out ++ ([IntKind.u8.wrap (i.imm.fdiv (2 ^ min ((at_).toNat) 64))] : List Int)).map eb))]) (todo' := headAt Try.f35 0) Try.func35 mixed 400 [(7001, .b true), (9004, .nat 0), (9006, .app 151 (([IntKind.u8.wrap (i.imm.fdiv (2 ^ min ((at_).toNat) 64))] : List Int).length) (([IntKind.u8.wrap (i.imm.fdiv (2 ^ min ((at_).toNat) 64))] : List Int).map eb)), (9007, .app 152 ((out ++ ([IntKind.u8.wrap (i.imm.fdiv (2 ^ min ((at_).toNat) 64))] : List Int)).length) ((out ++ ([IntKind.u8.wrap (i.imm.fdiv (2 ^ min ((at_).toNat) 64))] : List Int)).map eb)), (8001, .as_ (.v (.int .i64 (at_ - 8))))] (all8 h7001 (show (0 : Int) ≤ at_ by omega) (And.intro (Eq.refl (([IntKind.u8.wrap (i.imm.fdiv (2 ^ min ((at_).toNat) 64))] : List Int).map eb)) (Eq.refl (([IntKind.u8.wrap (i.imm.fdiv (2 ^ min ((at_).toNat) 64))] : List Int).length))) (oneE eb (fun _ => rfl) ([IntKind.u8.wrap (i.imm.fdiv (2 ^ min ((at_).toNat) 64))] : List Int)) (show (out.length + ([IntKind.u8.wrap (i.imm.fdiv (2 ^ min ((at_).toNat) 64))] : List Int).length) * 1 ≤ 140737488355328 by (first | omega | (simp only [List.length_append, List.length_cons, List.length_nil, List.length_map, List.length_take, List.length_drop, List.length_replicate, maxLen] <;> omega))) (show out.length + ([IntKind.u8.wrap (i.imm.fdiv (2 ^ min ((at_).toNat) 64))] : List Int).length ≤ maxLen by (first | omega | (simp only [List.length_append, List.length_cons, List.length_nil, List.length_map, List.length_take, List.length_drop, List.length_replicate, maxLen] <;> omega))) (appE eb out ([IntKind.u8.wrap (i.imm.fdiv (2 ^ min ((at_).toNat) 64))] : List Int)) (wr64 (x := at_ - 8) (by omega))) (by kernel_rfl) ?_
      refine Good.ren 152 102 (by kernel_rfl) ?_
      exact Good.cast (by kernel_rfl) (by kernel_rfl) (ih (at_ - 8) (out ++ ([IntKind.u8.wrap (i.imm.fdiv (2 ^ min ((at_).toNat) 64))] : List Int)) (by omega) (by omega) (by (first | omega | (simp only [List.length_set, List.length_append, List.length_cons, List.length_nil, List.length_map, List.length_take, List.length_drop, List.length_replicate] <;> omega) | (simp only [List.length_set, List.length_append, List.length_cons, List.length_nil, List.length_map, List.length_take, List.length_drop, List.length_replicate] at * <;> omega))) (by omega))
def put_s (i : Ins) : List Int × Int := (bif !(known_s i.op) then (([] : List Int), (4 : Int)) else (bif (wrong_s i) != (0 : Int) then (([] : List Int), (5 : Int)) else (put_l0 i ((((56) : Int) + 8).toNat + 1) 56 ([IntKind.u8.wrap (i.op), IntKind.u8.wrap (i.a), IntKind.u8.wrap (i.b), IntKind.u8.wrap (i.c)] : List Int))))
set_option maxRecDepth 100000 in
theorem put_ok (i : Ins)  : Ok Try.prog 35 [.agg [.v (.int .i64 i.op), .v (.int .i64 i.a), .v (.int .i64 i.b), .v (.int .i64 i.c), .v (.int .u64 i.imm)]] (look []) (.tup [.ro 1 (((put_s i).1).length) (((put_s i).1).map eb), .v (.int .i64 ((put_s i).2))]) (postOf [] []) := by
  unfold put_s
  cases h1003 : (!(known_s i.op))
  · have p1003 := notF h1003
    cases h3002 : ((wrong_s i) != (0 : Int))
    · have p3002 := bne_eq_false_iff_eq.1 h3002
      refine ok_head (T := [(1, .ptr 101 0), (2, .v (.slice none 0 0)), (3, .v (.int .i64 0)), (4, .own 102), (5, .v (.int .i64 56))]) (H := [(101, .cells [.v (.int .i64 i.op), .v (.int .i64 i.a), .v (.int .i64 i.b), .v (.int .i64 i.c), .v (.int .u64 i.imm)] 41), (102, .row 1 5 (([IntKind.u8.wrap (i.op), IntKind.u8.wrap (i.a), IntKind.u8.wrap (i.b), IntKind.u8.wrap (i.c)] : List Int).length) (([IntKind.u8.wrap (i.op), IntKind.u8.wrap (i.a), IntKind.u8.wrap (i.b), IntKind.u8.wrap (i.c)] : List Int).map eb))]) (todo := headAt Try.f35 0) Try.func35 rfl rfl mixed 400 [(0, .nm 101), (1002, .call [] [] (.v (.bool (known_s i.op)))), (1003, .b false), (3001, .call [] [] (.v (.int .i64 (wrong_s i)))), (3002, .b false), (5012, .app 102 (([IntKind.u8.wrap (i.op), IntKind.u8.wrap (i.a), IntKind.u8.wrap (i.b), IntKind.u8.wrap (i.c)] : List Int).length) (([IntKind.u8.wrap (i.op), IntKind.u8.wrap (i.a), IntKind.u8.wrap (i.b), IntKind.u8.wrap (i.c)] : List Int).map eb))] (all5 (known_ok i.op ) h1003 (wrong_ok i (known_t (n := i.op) (by assumption)).1 (known_t (n := i.op) (by assumption)).2) h3002 (And.intro (Eq.refl (([IntKind.u8.wrap (i.op), IntKind.u8.wrap (i.a), IntKind.u8.wrap (i.b), IntKind.u8.wrap (i.c)] : List Int).map eb)) (Eq.refl (([IntKind.u8.wrap (i.op), IntKind.u8.wrap (i.a), IntKind.u8.wrap (i.b), IntKind.u8.wrap (i.c)] : List Int).length)))) (by kernel_rfl) ?_
      exact put_lok0 i _ 56 ([IntKind.u8.wrap (i.op), IntKind.u8.wrap (i.a), IntKind.u8.wrap (i.b), IntKind.u8.wrap (i.c)] : List Int) (by omega) (by omega) (by (first | omega | (simp only [List.length_set, List.length_append, List.length_cons, List.length_nil, List.length_map, List.length_take, List.length_drop, List.length_replicate] <;> omega) | (simp only [List.length_set, List.length_append, List.length_cons, List.length_nil, List.length_map, List.length_take, List.length_drop, List.length_replicate] at * <;> omega))) (Nat.lt_succ_self _)
    · have p3002 := bne_iff_ne.1 h3002
      refine Ok.le (res := .tup [.v (.slice none 0 0), .v (.int .i64 5)]) ?_ (by repeat (first | exact LeA.refl _ | exact LeA.nil _ | exact LeL.nil | apply LeA.tup | apply LeA.agg | apply LeA.vagg | apply LeL.cons | apply LeA.ifc))
      exact ok_run Try.func35 rfl rfl mixed 400 [(0, .nm 101), (1002, .call [] [] (.v (.bool (known_s i.op)))), (1003, .b false), (3001, .call [] [] (.v (.int .i64 (wrong_s i)))), (3002, .b true)] (all4 (known_ok i.op ) h1003 (wrong_ok i (known_t (n := i.op) (by assumption)).1 (known_t (n := i.op) (by assumption)).2) h3002) (by kernel_rfl)
  · have p1003 := notT h1003
    refine Ok.le (res := .tup [.v (.slice none 0 0), .v (.int .i64 4)]) ?_ (by repeat (first | exact LeA.refl _ | exact LeA.nil _ | exact LeL.nil | apply LeA.tup | apply LeA.agg | apply LeA.vagg | apply LeL.cons | apply LeA.ifc))
    exact ok_run Try.func35 rfl rfl mixed 400 [(0, .nm 101), (1002, .call [] [] (.v (.bool (known_s i.op)))), (1003, .b true)] (all2 (known_ok i.op ) h1003) (by kernel_rfl)

def sizes_l0 (p : Img) : Nat → Int → Bool
  | 0, _ => default
  | m + 1, i => (bif decide (i < ((p.funs.drop 1).length : Int)) then (bif decide (((p.funs.drop 1).getD ((i).toNat) 0) ≤ (p.funs.getD ((i).toNat) 0)) then false else (sizes_l0 p m (i + 1))) else (within_s (p.code.length : Int) (IntKind.i64.wrap ((p.funs.getD (((p.funs.length : Int) - 1).toNat) 0) + 1)) 256))
set_option maxRecDepth 100000 in
theorem sizes_lok0 (p : Img) (hp : Small p) : ∀ (m : Nat) (i : Int), (0 ≤ i) → (i ≤ (p.funs.drop 1).length) → (1 ≤ p.funs.length) → (p.funs.drop 1).length - (i : Int).toNat < m → Good Try.prog 34 Try.f34.ntmps (look []) false (.v (.bool (sizes_l0 p m i))) (postOf [] []) (headAt Try.f34 0) [(1, .ptr 101 0), (2, .v (.bool false)), (45, .ro 1 ((p.funs.drop 1).length) ((p.funs.drop 1).map ei)), (46, .v (.int .i64 ((p.funs.drop 1).length : Int))), (47, .v (.int .i64 i))] [(101, .cells [.v (.int .i64 p.mem), .v (.int .i64 p.stack), .v (.int .i64 p.input), .ro 1 p.data.length ((p.data).map eb), .ro 1 p.funs.length ((p.funs).map ei), .ro 5 p.code.length ((p.code).map eIns)] 26)] := by
  intro m
  induction m with
  | zero => intro i i1 i2 i3 hm; exact absurd hm (Nat.not_lt_zero _)
  | succ m ih =>
    intro i i1 i2 i3 hm
    rw [sizes_l0]
    have := hp.1; have := hp.2.1; have := hp.2.2
    cases h4000 : (decide (i < ((p.funs.drop 1).length : Int)))
    · have p4000 := of_decide_eq_false h4000
      exact good_run Try.func34 mixed 400 [(4000, .b false), (9008, .as_ (.v (.int .i64 ((p.funs.length : Int) - 1)))), (9009, .el (ei (p.funs.getD (((p.funs.length : Int) - 1).toNat) 0))), (9012, .call [] [] (.v (.bool (within_s (p.code.length : Int) (IntKind.i64.wrap ((p.funs.getD (((p.funs.length : Int) - 1).toNat) 0) + 1)) 256))))] (all5 h4000 (wr64 (x := (p.funs.length : Int) - 1) (by omega)) (show (0 : Int) ≤ (p.funs.length : Int) - 1 by omega) (getg (l := p.funs) (n := ((p.funs.length : Int) - 1).toNat) ei 0 (by omega)) (within_ok (p.code.length : Int) (IntKind.i64.wrap ((p.funs.getD (((p.funs.length : Int) - 1).toNat) 0) + 1)) 256 )) (by kernel_rfl)
    · have p4000 := of_decide_eq_true h4000
      cases h6006 : (decide (((p.funs.drop 1).getD ((i).toNat) 0) ≤ (p.funs.getD ((i).toNat) 0)))
      · have p6006 := of_decide_eq_false h6006
        refine good_head (T := [(1, .ptr 101 0), (2, .v (.bool false)), (45, .ro 1 ((p.funs.drop 1).length) ((p.funs.drop 1).map ei)), (46, .v (.int .i64 ((p.funs.drop 1).length : Int))), (47, .v (.int .i64 (i + 1)))]) (H := [(101, .cells [.v (.int .i64 p.mem), .v (.int .i64 p.stack), .v (.int .i64 p.input), .ro 1 p.data.length ((p.data).map eb), .ro 1 p.funs.length ((p.funs).map ei), .ro 5 p.code.length ((p.code).map eIns)] 26)]) (todo' := headAt Try.f34 0) Try.func34 mixed 400 [(4000, .b true), (5001, .el (ei ((p.funs.drop 1).getD ((i).toNat) 0))), (6004, .el (ei (p.funs.getD ((i).toNat) 0))), (6006, .b false), (8000, .as_ (.v (.int .i64 (i + 1))))] (all7 h4000 (show (0 : Int) ≤ i by omega) (getg (l := (p.funs.drop 1)) (n := (i).toNat) ei 0 (by omega)) (show (0 : Int) ≤ i by omega) (getg (l := p.funs) (n := (i).toNat) ei 0 (by (first | omega | (simp only [List.length_set, List.length_append, List.length_cons, List.length_nil, List.length_map, List.length_take, List.length_drop, List.length_replicate] <;> omega) | (simp only [List.length_set, List.length_append, List.length_cons, List.length_nil, List.length_map, List.length_take, List.length_drop, List.length_replicate] at * <;> omega)))) h6006 (wr64 (x := i + 1) (by (first | omega | (simp only [List.length_set, List.length_append, List.length_cons, List.length_nil, List.length_map, List.length_take, List.length_drop, List.length_replicate] <;> omega) | (simp only [List.length_set, List.length_append, List.length_cons, List.length_nil, List.length_map, List.length_take, List.length_drop, List.length_replicate] at * <;> omega))))) (by kernel_rfl) ?_
        exact ih (i + 1) (by omega) (by omega) (by omega) (by omega)
      · have p6006 := of_decide_eq_true h6006
        exact good_run Try.func34 mixed 400 [(4000, .b true), (5001, .el (ei ((p.funs.drop 1).getD ((i).toNat) 0))), (6004, .el (ei (p.funs.getD ((i).toNat) 0))), (6006, .b true)] (all6 h4000 (show (0 : Int) ≤ i by omega) (getg (l := (p.funs.drop 1)) (n := (i).toNat) ei 0 (by omega)) (show (0 : Int) ≤ i by omega) (getg (l := p.funs) (n := (i).toNat) ei 0 (by (first | omega | (simp only [List.length_set, List.length_append, List.length_cons, List.length_nil, List.length_map, List.length_take, List.length_drop, List.length_replicate] <;> omega) | (simp only [List.length_set, List.length_append, List.length_cons, List.length_nil, List.length_map, List.length_take, List.length_drop, List.length_replicate] at * <;> omega)))) h6006) (by kernel_rfl)
def sizes_s (p : Img) : Bool := (bif !(within_s p.mem 0 64) then false else (bif !(within_s p.stack 0 16) then false else (bif !(within_s p.input 0 16) then false else (bif decide ((p.data.length : Int) > p.mem) then false else (bif !(within_s (p.funs.length : Int) 1 16) then false else (bif (p.funs.getD 0 0) != (0 : Int) then false else (sizes_l0 p ((p.funs.drop 1).length - ((0) : Int).toNat + 1) 0)))))))
set_option maxRecDepth 100000 in
theorem sizes_ok (p : Img) (hp : Small p) : Ok Try.prog 34 [.agg [.v (.int .i64 p.mem), .v (.int .i64 p.stack), .v (.int .i64 p.input), .ro 1 p.data.length ((p.data).map eb), .ro 1 p.funs.length ((p.funs).map ei), .ro 5 p.code.length ((p.code).map eIns)]] (look []) (.v (.bool (sizes_s p))) (postOf [] []) := by
  unfold sizes_s
  have := hp.1; have := hp.2.1; have := hp.2.2
  cases h1003 : (!(within_s p.mem 0 64))
  · have p1003 := within_t (notF h1003)
    cases h1008 : (!(within_s p.stack 0 16))
    · have p1008 := within_t (notF h1008)
      cases h1014 : (!(within_s p.input 0 16))
      · have p1014 := within_t (notF h1014)
        cases h1022 : (decide ((p.data.length : Int) > p.mem))
        · have p1022 := of_decide_eq_false h1022
          cases h1029 : (!(within_s (p.funs.length : Int) 1 16))
          · have p1029 := within_t (notF h1029)
            cases h1036 : ((p.funs.getD 0 0) != (0 : Int))
            · have p1036 := bne_eq_false_iff_eq.1 h1036
              refine ok_head (T := [(1, .ptr 101 0), (2, .v (.bool false)), (45, .ro 1 ((p.funs.drop 1).length) ((p.funs.drop 1).map ei)), (46, .v (.int .i64 ((p.funs.drop 1).length : Int))), (47, .v (.int .i64 0))]) (H := [(101, .cells [.v (.int .i64 p.mem), .v (.int .i64 p.stack), .v (.int .i64 p.input), .ro 1 p.data.length ((p.data).map eb), .ro 1 p.funs.length ((p.funs).map ei), .ro 5 p.code.length ((p.code).map eIns)] 26)]) (todo := headAt Try.f34 0) Try.func34 rfl rfl mixed 400 [(0, .nm 101), (1002, .call [] [] (.v (.bool (within_s p.mem 0 64)))), (1003, .b false), (1007, .call [] [] (.v (.bool (within_s p.stack 0 16)))), (1008, .b false), (1013, .call [] [] (.v (.bool (within_s p.input 0 16)))), (1014, .b false), (1022, .b false), (1028, .call [] [] (.v (.bool (within_s (p.funs.length : Int) 1 16)))), (1029, .b false), (1034, .el (ei (p.funs.getD 0 0))), (1036, .b false), (3002, .as_ (.ro 1 ((p.funs.drop 1).length) ((p.funs.drop 1).map ei)))] (.cons (within_ok p.mem 0 64 ) (.cons h1003 (.cons (within_ok p.stack 0 16 ) (.cons h1008 (.cons (within_ok p.input 0 16 ) (.cons h1014 (.cons h1022 (.cons (within_ok (p.funs.length : Int) 1 16 ) (all8 h1029 (show (0 : Int) ≤ 0 by decide) (getg (l := p.funs) (n := 0) ei 0 (by omega)) h1036 (show (0 : Int) ≤ 1 by decide) (show (1 : Int) ≤ (p.funs.length : Int) by omega) (show ((p.funs.length : Int) : Int) ≤ (p.funs.length : Int) by omega) (slD ei 1 p.funs 1)))))))))) (by kernel_rfl) ?_
              exact sizes_lok0 p hp _ 0 (by omega) (by omega) (by omega) (Nat.lt_succ_self _)
            · have p1036 := bne_iff_ne.1 h1036
              exact ok_run Try.func34 rfl rfl mixed 400 [(0, .nm 101), (1002, .call [] [] (.v (.bool (within_s p.mem 0 64)))), (1003, .b false), (1007, .call [] [] (.v (.bool (within_s p.stack 0 16)))), (1008, .b false), (1013, .call [] [] (.v (.bool (within_s p.input 0 16)))), (1014, .b false), (1022, .b false), (1028, .call [] [] (.v (.bool (within_s (p.funs.length : Int) 1 16)))), (1029, .b false), (1034, .el (ei (p.funs.getD 0 0))), (1036, .b true)] (.cons (within_ok p.mem 0 64 ) (.cons h1003 (.cons (within_ok p.stack 0 16 ) (.cons h1008 (all8 (within_ok p.input 0 16 ) h1014 h1022 (within_ok (p.funs.length : Int) 1 16 ) h1029 (show (0 : Int) ≤ 0 by decide) (getg (l := p.funs) (n := 0) ei 0 (by omega)) h1036))))) (by kernel_rfl)
          · have p1029 := notT h1029
            exact ok_run Try.func34 rfl rfl mixed 400 [(0, .nm 101), (1002, .call [] [] (.v (.bool (within_s p.mem 0 64)))), (1003, .b false), (1007, .call [] [] (.v (.bool (within_s p.stack 0 16)))), (1008, .b false), (1013, .call [] [] (.v (.bool (within_s p.input 0 16)))), (1014, .b false), (1022, .b false), (1028, .call [] [] (.v (.bool (within_s (p.funs.length : Int) 1 16)))), (1029, .b true)] (.cons (within_ok p.mem 0 64 ) (all8 h1003 (within_ok p.stack 0 16 ) h1008 (within_ok p.input 0 16 ) h1014 h1022 (within_ok (p.funs.length : Int) 1 16 ) h1029)) (by kernel_rfl)
        · have p1022 := of_decide_eq_true h1022
          exact ok_run Try.func34 rfl rfl mixed 400 [(0, .nm 101), (1002, .call [] [] (.v (.bool (within_s p.mem 0 64)))), (1003, .b false), (1007, .call [] [] (.v (.bool (within_s p.stack 0 16)))), (1008, .b false), (1013, .call [] [] (.v (.bool (within_s p.input 0 16)))), (1014, .b false), (1022, .b true)] (all7 (within_ok p.mem 0 64 ) h1003 (within_ok p.stack 0 16 ) h1008 (within_ok p.input 0 16 ) h1014 h1022) (by kernel_rfl)
      · have p1014 := notT h1014
        exact ok_run Try.func34 rfl rfl mixed 400 [(0, .nm 101), (1002, .call [] [] (.v (.bool (within_s p.mem 0 64)))), (1003, .b false), (1007, .call [] [] (.v (.bool (within_s p.stack 0 16)))), (1008, .b false), (1013, .call [] [] (.v (.bool (within_s p.input 0 16)))), (1014, .b true)] (all6 (within_ok p.mem 0 64 ) h1003 (within_ok p.stack 0 16 ) h1008 (within_ok p.input 0 16 ) h1014) (by kernel_rfl)
    · have p1008 := notT h1008
      exact ok_run Try.func34 rfl rfl mixed 400 [(0, .nm 101), (1002, .call [] [] (.v (.bool (within_s p.mem 0 64)))), (1003, .b false), (1007, .call [] [] (.v (.bool (within_s p.stack 0 16)))), (1008, .b true)] (all4 (within_ok p.mem 0 64 ) h1003 (within_ok p.stack 0 16 ) h1008) (by kernel_rfl)
  · have p1003 := notT h1003
    exact ok_run Try.func34 rfl rfl mixed 400 [(0, .nm 101), (1002, .call [] [] (.v (.bool (within_s p.mem 0 64)))), (1003, .b true)] (all2 (within_ok p.mem 0 64 ) h1003) (by kernel_rfl)

theorem fun_l0_rng (p : Img) (place : Int) (h : p.funs.getD 0 0 ≤ place) : ∀ (m : Nat) (n : Int), 0 ≤ n → (n + 1).toNat < m → 0 ≤ fun_l0 p place m n ∧ fun_l0 p place m n ≤ n := by
  intro m
  induction m with
  | zero => intro n _ hm; exact absurd hm (Nat.not_lt_zero _)
  | succ m ih =>
    intro n h0 hm
    rw [fun_l0, decide_eq_true (show n ≥ 0 from h0)]
    simp only [cond_true]
    cases hc : decide (p.funs.getD n.toNat 0 > place) with
    | false => simp only [cond_false]; omega
    | true =>
      simp only [cond_true]
      have h1 := of_decide_eq_true hc
      have h2 : n ≠ 0 := by
        intro e; subst e
        have h1 : p.funs.getD 0 0 > place := h1
        omega
      have := ih (n - 1) (by omega) (by omega)
      omega
theorem fun_rng {p : Img} {at_ : Int} (hf : 0 < p.funs.length) (h0 : p.funs.getD 0 0 = 0) (a0 : 0 ≤ at_) (a1 : at_ < p.code.length) : 0 ≤ fun_s p at_ ∧ fun_s p at_ < p.funs.length := by
  unfold fun_s
  rw [decide_eq_false (by omega), decide_eq_false (by omega)]
  simp only [cond_false]
  have := fun_l0_rng p at_ (by omega) ((((p.funs.length : Int) - 1) + 1).toNat + 1) ((p.funs.length : Int) - 1) (by omega) (Nat.lt_succ_self _)
  omega
theorem places_l0_eq (p : Img) : ∀ (m : Nat) (i : Int) (out : List Int), 0 ≤ i → out.length = p.code.length → out.length - i.toNat < m → (∀ j, j < out.length → (j : Int) < i → out.getD j 0 = j) →
    (places_l0 p m i out).length = p.code.length ∧ ∀ j, j < p.code.length → (places_l0 p m i out).getD j 0 = j := by
  intro m
  induction m with
  | zero => intro i out _ _ hm; exact absurd hm (Nat.not_lt_zero _)
  | succ m ih =>
    intro i out h0 hl hm h
    rw [places_l0]
    cases hc : decide (i < ((List.replicate p.code.length (0 : Int)).length : Int)) with
    | false =>
      have h1 := of_decide_eq_false hc
      rw [List.length_replicate] at h1
      simp only [cond_false]
      exact ⟨hl, fun j hj => h j (by omega) (by omega)⟩
    | true =>
      have h1 := of_decide_eq_true hc
      rw [List.length_replicate] at h1
      simp only [cond_true]
      refine ih (i + 1) (out.set i.toNat i) (by omega) (by rw [List.length_set]; exact hl) (by rw [List.length_set]; omega) fun j hj hji => ?_
      rw [List.length_set] at hj
      rw [List.getD_eq_getElem?_getD, List.getElem?_set]
      by_cases e : i.toNat = j
      · rw [if_pos e, if_pos (by omega)]; simp; omega
      · rw [if_neg e, ← List.getD_eq_getElem?_getD]; exact h j hj (by omega)
theorem places_eq (p : Img) : (places_s p).length = p.code.length ∧ ∀ j, j < p.code.length → (places_s p).getD j 0 = j := by
  unfold places_s
  exact places_l0_eq p _ 0 _ (by omega) List.length_replicate (Nat.lt_succ_self _) (fun j _ h => by omega)
theorem put_l0_len (i : Ins) : ∀ (m : Nat) (at_ : Int) (out : List Int), -8 ≤ at_ → at_ ≤ 56 → 8 * (out.length : Int) + at_ = 88 → (at_ + 8).toNat < m → (put_l0 i m at_ out).1.length = 12 := by
  intro m
  induction m with
  | zero => intro at_ out _ _ _ hm; exact absurd hm (Nat.not_lt_zero _)
  | succ m ih =>
    intro at_ out h1 h2 h3 hm
    rw [put_l0]
    cases hc : decide (at_ ≥ (0 : Int)) with
    | false =>
      have := of_decide_eq_false hc
      simp only [cond_false]; omega
    | true =>
      have := of_decide_eq_true hc
      simp only [cond_true]
      exact ih _ _ (by omega) (by omega) (by rw [List.length_append]; simp; omega) (by omega)
theorem put_len (i : Ins) : (put_s i).1.length ≤ 12 := by
  unfold put_s
  cases known_s i.op with
  | false => exact Nat.zero_le _
  | true =>
    cases wrong_s i != 0 with
    | true => exact Nat.zero_le _
    | false => exact Nat.le_of_eq (put_l0_len i _ 56 _ (by omega) (by omega) (by simp) (Nat.lt_succ_self _))

def strayf_s (p : Img) (at_ : Int) : Bool := (bif (goes_s ((p.code.getD ((at_).toNat) default).op)) then (bif decide ((at_ + 1) ≥ ((ends_s p (fun_s p at_)).2)) then true else (bif ((p.code.getD ((at_).toNat) default).op) == (21 : Int) then (bif decide (((p.code.getD ((at_).toNat) default).imm) < (IntKind.u64.wrap ((ends_s p (fun_s p at_)).1))) then true else (decide (((p.code.getD ((at_).toNat) default).imm) ≥ (IntKind.u64.wrap ((ends_s p (fun_s p at_)).2))))) else (bif ((p.code.getD ((at_).toNat) default).op) == (22 : Int) then (bif decide (((p.code.getD ((at_).toNat) default).imm) < (IntKind.u64.wrap ((ends_s p (fun_s p at_)).1))) then true else (decide (((p.code.getD ((at_).toNat) default).imm) ≥ (IntKind.u64.wrap ((ends_s p (fun_s p at_)).2))))) else (bif ((p.code.getD ((at_).toNat) default).op) == (23 : Int) then (decide (((p.code.getD ((at_).toNat) default).imm) ≥ (IntKind.u64.wrap ((p.funs.length : Int))))) else false)))) else (bif ((p.code.getD ((at_).toNat) default).op) == (21 : Int) then (bif decide (((p.code.getD ((at_).toNat) default).imm) < (IntKind.u64.wrap ((ends_s p (fun_s p at_)).1))) then true else (decide (((p.code.getD ((at_).toNat) default).imm) ≥ (IntKind.u64.wrap ((ends_s p (fun_s p at_)).2))))) else (bif ((p.code.getD ((at_).toNat) default).op) == (22 : Int) then (bif decide (((p.code.getD ((at_).toNat) default).imm) < (IntKind.u64.wrap ((ends_s p (fun_s p at_)).1))) then true else (decide (((p.code.getD ((at_).toNat) default).imm) ≥ (IntKind.u64.wrap ((ends_s p (fun_s p at_)).2))))) else (bif ((p.code.getD ((at_).toNat) default).op) == (23 : Int) then (decide (((p.code.getD ((at_).toNat) default).imm) ≥ (IntKind.u64.wrap ((p.funs.length : Int))))) else false))))
set_option maxRecDepth 100000 in
theorem strayf_ok (p : Img) (at_ : Int) (hp : Small p) (hf : 0 < p.funs.length) (h0 : p.funs.getD 0 0 = 0) (a0 : 0 ≤ at_) (a1 : at_ < p.code.length) : Ok Try.prog 60 [.v (.int .i64 at_), .ptr 501 0] (look [(501, .cells [.v (.int .i64 p.mem), .v (.int .i64 p.stack), .v (.int .i64 p.input), .ro 1 p.data.length ((p.data).map eb), .ro 1 p.funs.length ((p.funs).map ei), .ro 5 p.code.length ((p.code).map eIns)] 26)]) (.v (.bool (strayf_s p at_))) (postOf [(501, .cells [.v (.int .i64 p.mem), .v (.int .i64 p.stack), .v (.int .i64 p.input), .ro 1 p.data.length ((p.data).map eb), .ro 1 p.funs.length ((p.funs).map ei), .ro 5 p.code.length ((p.code).map eIns)] 26)] []) := by
  unfold strayf_s
  have := hp.1; have := hp.2.1; have := hp.2.2
  cases h3002 : ((goes_s ((p.code.getD ((at_).toNat) default).op)))
  · cases h6000 : (((p.code.getD ((at_).toNat) default).op) == (21 : Int))
    · have p6000 := ne_of_beq_false h6000
      cases h7000 : (((p.code.getD ((at_).toNat) default).op) == (22 : Int))
      · have p7000 := ne_of_beq_false h7000
        cases h9000 : (((p.code.getD ((at_).toNat) default).op) == (23 : Int))
        · have p9000 := ne_of_beq_false h9000
          exact ok_run Try.func60 rfl rfl mixed 400 [(1003, .el (eIns (p.code.getD ((at_).toNat) default))), (1005, .nm 601), (2003, .call [] [] (.v (.int .i64 (fun_s p at_)))), (2004, .call [] [] (.tup [.v (.int .i64 ((ends_s p (fun_s p at_)).1)), .v (.int .i64 ((ends_s p (fun_s p at_)).2))])), (3002, .two (.call [] [] (.v (.bool (goes_s ((p.code.getD ((at_).toNat) default).op))))) (.b false)), (6000, .b false), (7000, .b false), (9000, .b false)] (.cons (show (0 : Int) ≤ at_ by omega) (all8 (getg (l := p.code) (n := (at_).toNat) eIns default (by omega)) (fun_ok p at_ hp) (ends_ok p (fun_s p at_) hp (fun_rng hf h0 a0 a1).1 (fun_rng hf h0 a0 a1).2) (goes_ok ((p.code.getD ((at_).toNat) default).op) ) h3002 h6000 h7000 h9000)) (by kernel_rfl)
        · have p9000 := eq_of_beq h9000
          exact ok_run Try.func60 rfl rfl mixed 400 [(1003, .el (eIns (p.code.getD ((at_).toNat) default))), (1005, .nm 601), (2003, .call [] [] (.v (.int .i64 (fun_s p at_)))), (2004, .call [] [] (.tup [.v (.int .i64 ((ends_s p (fun_s p at_)).1)), .v (.int .i64 ((ends_s p (fun_s p at_)).2))])), (3002, .two (.call [] [] (.v (.bool (goes_s ((p.code.getD ((at_).toNat) default).op))))) (.b false)), (6000, .b false), (7000, .b false), (9000, .b true)] (.cons (show (0 : Int) ≤ at_ by omega) (all8 (getg (l := p.code) (n := (at_).toNat) eIns default (by omega)) (fun_ok p at_ hp) (ends_ok p (fun_s p at_) hp (fun_rng hf h0 a0 a1).1 (fun_rng hf h0 a0 a1).2) (goes_ok ((p.code.getD ((at_).toNat) default).op) ) h3002 h6000 h7000 h9000)) (by kernel_rfl)
      · have p7000 := eq_of_beq h7000
        cases h8004 : (decide (((p.code.getD ((at_).toNat) default).imm) < (IntKind.u64.wrap ((ends_s p (fun_s p at_)).1))))
        · have p8004 := of_decide_eq_false h8004
          exact ok_run Try.func60 rfl rfl mixed 400 [(1003, .el (eIns (p.code.getD ((at_).toNat) default))), (1005, .nm 601), (2003, .call [] [] (.v (.int .i64 (fun_s p at_)))), (2004, .call [] [] (.tup [.v (.int .i64 ((ends_s p (fun_s p at_)).1)), .v (.int .i64 ((ends_s p (fun_s p at_)).2))])), (3002, .two (.call [] [] (.v (.bool (goes_s ((p.code.getD ((at_).toNat) default).op))))) (.b false)), (6000, .b false), (7000, .b true), (8004, .b false)] (.cons (show (0 : Int) ≤ at_ by omega) (all8 (getg (l := p.code) (n := (at_).toNat) eIns default (by omega)) (fun_ok p at_ hp) (ends_ok p (fun_s p at_) hp (fun_rng hf h0 a0 a1).1 (fun_rng hf h0 a0 a1).2) (goes_ok ((p.code.getD ((at_).toNat) default).op) ) h3002 h6000 h7000 h8004)) (by kernel_rfl)
        · have p8004 := of_decide_eq_true h8004
          exact ok_run Try.func60 rfl rfl mixed 400 [(1003, .el (eIns (p.code.getD ((at_).toNat) default))), (1005, .nm 601), (2003, .call [] [] (.v (.int .i64 (fun_s p at_)))), (2004, .call [] [] (.tup [.v (.int .i64 ((ends_s p (fun_s p at_)).1)), .v (.int .i64 ((ends_s p (fun_s p at_)).2))])), (3002, .two (.call [] [] (.v (.bool (goes_s ((p.code.getD ((at_).toNat) default).op))))) (.b false)), (6000, .b false), (7000, .b true), (8004, .b true)] (.cons (show (0 : Int) ≤ at_ by omega) (all8 (getg (l := p.code) (n := (at_).toNat) eIns default (by omega)) (fun_ok p at_ hp) (ends_ok p (fun_s p at_) hp (fun_rng hf h0 a0 a1).1 (fun_rng hf h0 a0 a1).2) (goes_ok ((p.code.getD ((at_).toNat) default).op) ) h3002 h6000 h7000 h8004)) (by kernel_rfl)
    · have p6000 := eq_of_beq h6000
      cases h8004 : (decide (((p.code.getD ((at_).toNat) default).imm) < (IntKind.u64.wrap ((ends_s p (fun_s p at_)).1))))
      · have p8004 := of_decide_eq_false h8004
        exact ok_run Try.func60 rfl rfl mixed 400 [(1003, .el (eIns (p.code.getD ((at_).toNat) default))), (1005, .nm 601), (2003, .call [] [] (.v (.int .i64 (fun_s p at_)))), (2004, .call [] [] (.tup [.v (.int .i64 ((ends_s p (fun_s p at_)).1)), .v (.int .i64 ((ends_s p (fun_s p at_)).2))])), (3002, .two (.call [] [] (.v (.bool (goes_s ((p.code.getD ((at_).toNat) default).op))))) (.b false)), (6000, .b true), (8004, .b false)] (all8 (show (0 : Int) ≤ at_ by omega) (getg (l := p.code) (n := (at_).toNat) eIns default (by omega)) (fun_ok p at_ hp) (ends_ok p (fun_s p at_) hp (fun_rng hf h0 a0 a1).1 (fun_rng hf h0 a0 a1).2) (goes_ok ((p.code.getD ((at_).toNat) default).op) ) h3002 h6000 h8004) (by kernel_rfl)
      · have p8004 := of_decide_eq_true h8004
        exact ok_run Try.func60 rfl rfl mixed 400 [(1003, .el (eIns (p.code.getD ((at_).toNat) default))), (1005, .nm 601), (2003, .call [] [] (.v (.int .i64 (fun_s p at_)))), (2004, .call [] [] (.tup [.v (.int .i64 ((ends_s p (fun_s p at_)).1)), .v (.int .i64 ((ends_s p (fun_s p at_)).2))])), (3002, .two (.call [] [] (.v (.bool (goes_s ((p.code.getD ((at_).toNat) default).op))))) (.b false)), (6000, .b true), (8004, .b true)] (all8 (show (0 : Int) ≤ at_ by omega) (getg (l := p.code) (n := (at_).toNat) eIns default (by omega)) (fun_ok p at_ hp) (ends_ok p (fun_s p at_) hp (fun_rng hf h0 a0 a1).1 (fun_rng hf h0 a0 a1).2) (goes_ok ((p.code.getD ((at_).toNat) default).op) ) h3002 h6000 h8004) (by kernel_rfl)
  · cases h3007 : (decide ((at_ + 1) ≥ ((ends_s p (fun_s p at_)).2)))
    · have p3007 := of_decide_eq_false h3007
      cases h6000 : (((p.code.getD ((at_).toNat) default).op) == (21 : Int))
      · have p6000 := ne_of_beq_false h6000
        cases h7000 : (((p.code.getD ((at_).toNat) default).op) == (22 : Int))
        · have p7000 := ne_of_beq_false h7000
          cases h9000 : (((p.code.getD ((at_).toNat) default).op) == (23 : Int))
          · have p9000 := ne_of_beq_false h9000
            exact ok_run Try.func60 rfl rfl mixed 400 [(1003, .el (eIns (p.code.getD ((at_).toNat) default))), (1005, .nm 601), (2003, .call [] [] (.v (.int .i64 (fun_s p at_)))), (2004, .call [] [] (.tup [.v (.int .i64 ((ends_s p (fun_s p at_)).1)), .v (.int .i64 ((ends_s p (fun_s p at_)).2))])), (3002, .two (.call [] [] (.v (.bool (goes_s ((p.code.getD ((at_).toNat) default).op))))) (.b true)), (3005, .as_ (.v (.int .i64 (at_ + 1)))), (3007, .b false), (6000, .b false), (7000, .b false), (9000, .b false)] (.cons (show (0 : Int) ≤ at_ by omega) (.cons (getg (l := p.code) (n := (at_).toNat) eIns default (by omega)) (.cons (fun_ok p at_ hp) (all8 (ends_ok p (fun_s p at_) hp (fun_rng hf h0 a0 a1).1 (fun_rng hf h0 a0 a1).2) (goes_ok ((p.code.getD ((at_).toNat) default).op) ) h3002 (wr64 (x := at_ + 1) (by omega)) h3007 h6000 h7000 h9000)))) (by kernel_rfl)
          · have p9000 := eq_of_beq h9000
            exact ok_run Try.func60 rfl rfl mixed 400 [(1003, .el (eIns (p.code.getD ((at_).toNat) default))), (1005, .nm 601), (2003, .call [] [] (.v (.int .i64 (fun_s p at_)))), (2004, .call [] [] (.tup [.v (.int .i64 ((ends_s p (fun_s p at_)).1)), .v (.int .i64 ((ends_s p (fun_s p at_)).2))])), (3002, .two (.call [] [] (.v (.bool (goes_s ((p.code.getD ((at_).toNat) default).op))))) (.b true)), (3005, .as_ (.v (.int .i64 (at_ + 1)))), (3007, .b false), (6000, .b false), (7000, .b false), (9000, .b true)] (.cons (show (0 : Int) ≤ at_ by omega) (.cons (getg (l := p.code) (n := (at_).toNat) eIns default (by omega)) (.cons (fun_ok p at_ hp) (all8 (ends_ok p (fun_s p at_) hp (fun_rng hf h0 a0 a1).1 (fun_rng hf h0 a0 a1).2) (goes_ok ((p.code.getD ((at_).toNat) default).op) ) h3002 (wr64 (x := at_ + 1) (by omega)) h3007 h6000 h7000 h9000)))) (by kernel_rfl)
        · have p7000 := eq_of_beq h7000
          cases h8004 : (decide (((p.code.getD ((at_).toNat) default).imm) < (IntKind.u64.wrap ((ends_s p (fun_s p at_)).1))))
          · have p8004 := of_decide_eq_false h8004
            exact ok_run Try.func60 rfl rfl mixed 400 [(1003, .el (eIns (p.code.getD ((at_).toNat) default))), (1005, .nm 601), (2003, .call [] [] (.v (.int .i64 (fun_s p at_)))), (2004, .call [] [] (.tup [.v (.int .i64 ((ends_s p (fun_s p at_)).1)), .v (.int .i64 ((ends_s p (fun_s p at_)).2))])), (3002, .two (.call [] [] (.v (.bool (goes_s ((p.code.getD ((at_).toNat) default).op))))) (.b true)), (3005, .as_ (.v (.int .i64 (at_ + 1)))), (3007, .b false), (6000, .b false), (7000, .b true), (8004, .b false)] (.cons (show (0 : Int) ≤ at_ by omega) (.cons (getg (l := p.code) (n := (at_).toNat) eIns default (by omega)) (.cons (fun_ok p at_ hp) (all8 (ends_ok p (fun_s p at_) hp (fun_rng hf h0 a0 a1).1 (fun_rng hf h0 a0 a1).2) (goes_ok ((p.code.getD ((at_).toNat) default).op) ) h3002 (wr64 (x := at_ + 1) (by omega)) h3007 h6000 h7000 h8004)))) (by kernel_rfl)
          · have p8004 := of_decide_eq_true h8004
            exact ok_run Try.func60 rfl rfl mixed 400 [(1003, .el (eIns (p.code.getD ((at_).toNat) default))), (1005, .nm 601), (2003, .call [] [] (.v (.int .i64 (fun_s p at_)))), (2004, .call [] [] (.tup [.v (.int .i64 ((ends_s p (fun_s p at_)).1)), .v (.int .i64 ((ends_s p (fun_s p at_)).2))])), (3002, .two (.call [] [] (.v (.bool (goes_s ((p.code.getD ((at_).toNat) default).op))))) (.b true)), (3005, .as_ (.v (.int .i64 (at_ + 1)))), (3007, .b false), (6000, .b false), (7000, .b true), (8004, .b true)] (.cons (show (0 : Int) ≤ at_ by omega) (.cons (getg (l := p.code) (n := (at_).toNat) eIns default (by omega)) (.cons (fun_ok p at_ hp) (all8 (ends_ok p (fun_s p at_) hp (fun_rng hf h0 a0 a1).1 (fun_rng hf h0 a0 a1).2) (goes_ok ((p.code.getD ((at_).toNat) default).op) ) h3002 (wr64 (x := at_ + 1) (by omega)) h3007 h6000 h7000 h8004)))) (by kernel_rfl)
      · have p6000 := eq_of_beq h6000
        cases h8004 : (decide (((p.code.getD ((at_).toNat) default).imm) < (IntKind.u64.wrap ((ends_s p (fun_s p at_)).1))))
        · have p8004 := of_decide_eq_false h8004
          exact ok_run Try.func60 rfl rfl mixed 400 [(1003, .el (eIns (p.code.getD ((at_).toNat) default))), (1005, .nm 601), (2003, .call [] [] (.v (.int .i64 (fun_s p at_)))), (2004, .call [] [] (.tup [.v (.int .i64 ((ends_s p (fun_s p at_)).1)), .v (.int .i64 ((ends_s p (fun_s p at_)).2))])), (3002, .two (.call [] [] (.v (.bool (goes_s ((p.code.getD ((at_).toNat) default).op))))) (.b true)), (3005, .as_ (.v (.int .i64 (at_ + 1)))), (3007, .b false), (6000, .b true), (8004, .b false)] (.cons (show (0 : Int) ≤ at_ by omega) (.cons (getg (l := p.code) (n := (at_).toNat) eIns default (by omega)) (all8 (fun_ok p at_ hp) (ends_ok p (fun_s p at_) hp (fun_rng hf h0 a0 a1).1 (fun_rng hf h0 a0 a1).2) (goes_ok ((p.code.getD ((at_).toNat) default).op) ) h3002 (wr64 (x := at_ + 1) (by omega)) h3007 h6000 h8004))) (by kernel_rfl)
        · have p8004 := of_decide_eq_true h8004
          exact ok_run Try.func60 rfl rfl mixed 400 [(1003, .el (eIns (p.code.getD ((at_).toNat) default))), (1005, .nm 601), (2003, .call [] [] (.v (.int .i64 (fun_s p at_)))), (2004, .call [] [] (.tup [.v (.int .i64 ((ends_s p (fun_s p at_)).1)), .v (.int .i64 ((ends_s p (fun_s p at_)).2))])), (3002, .two (.call [] [] (.v (.bool (goes_s ((p.code.getD ((at_).toNat) default).op))))) (.b true)), (3005, .as_ (.v (.int .i64 (at_ + 1)))), (3007, .b false), (6000, .b true), (8004, .b true)] (.cons (show (0 : Int) ≤ at_ by omega) (.cons (getg (l := p.code) (n := (at_).toNat) eIns default (by omega)) (all8 (fun_ok p at_ hp) (ends_ok p (fun_s p at_) hp (fun_rng hf h0 a0 a1).1 (fun_rng hf h0 a0 a1).2) (goes_ok ((p.code.getD ((at_).toNat) default).op) ) h3002 (wr64 (x := at_ + 1) (by omega)) h3007 h6000 h8004))) (by kernel_rfl)
    · have p3007 := of_decide_eq_true h3007
      exact ok_run Try.func60 rfl rfl mixed 400 [(1003, .el (eIns (p.code.getD ((at_).toNat) default))), (1005, .nm 601), (2003, .call [] [] (.v (.int .i64 (fun_s p at_)))), (2004, .call [] [] (.tup [.v (.int .i64 ((ends_s p (fun_s p at_)).1)), .v (.int .i64 ((ends_s p (fun_s p at_)).2))])), (3002, .two (.call [] [] (.v (.bool (goes_s ((p.code.getD ((at_).toNat) default).op))))) (.b true)), (3005, .as_ (.v (.int .i64 (at_ + 1)))), (3007, .b true)] (all8 (show (0 : Int) ≤ at_ by omega) (getg (l := p.code) (n := (at_).toNat) eIns default (by omega)) (fun_ok p at_ hp) (ends_ok p (fun_s p at_) hp (fun_rng hf h0 a0 a1).1 (fun_rng hf h0 a0 a1).2) (goes_ok ((p.code.getD ((at_).toNat) default).op) ) h3002 (wr64 (x := at_ + 1) (by omega)) h3007) (by kernel_rfl)

def idx_l0 (p : Img) (l : List Int) : Nat → Int → Int
  | 0, _ => default
  | m + 1, i => (bif decide (i < (l.length : Int)) then (bif strayf_s p (l.getD ((i).toNat) 0) then i else (idx_l0 p l m (i + 1))) else (-1 : Int))
set_option maxRecDepth 100000 in
theorem idx_lok0 (p : Img) (l : List Int) (hp : Small p) (hf : 0 < p.funs.length) (h0 : p.funs.getD 0 0 = 0) (hn : l.length < 2 ^ 40) (hl : ∀ n, n < l.length → 0 ≤ l.getD n 0 ∧ l.getD n 0 < p.code.length) : ∀ (m : Nat) (i : Int), (0 ≤ i) → (i ≤ l.length) → l.length - (i : Int).toNat < m → Good Try.prog 58 Try.f58.ntmps (look [(501, .cells [.v (.int .i64 p.mem), .v (.int .i64 p.stack), .v (.int .i64 p.input), .ro 1 p.data.length ((p.data).map eb), .ro 1 p.funs.length ((p.funs).map ei), .ro 5 p.code.length ((p.code).map eIns)] 26)]) false (.v (.int .i64 (idx_l0 p l m i))) (postOf [(501, .cells [.v (.int .i64 p.mem), .v (.int .i64 p.stack), .v (.int .i64 p.input), .ro 1 p.data.length ((p.data).map eb), .ro 1 p.funs.length ((p.funs).map ei), .ro 5 p.code.length ((p.code).map eIns)] 26)] []) (headAt Try.f58 0) [(0, .ro 1 l.length ((l).map ei)), (1, .fn (Go.Fn.func 60) [] [.ptr 501 0]), (4, .v (.int .i64 0)), (7, .v (.int .i64 (l.length : Int))), (8, .v (.int .i64 i))] [(501, .cells [.v (.int .i64 p.mem), .v (.int .i64 p.stack), .v (.int .i64 p.input), .ro 1 p.data.length ((p.data).map eb), .ro 1 p.funs.length ((p.funs).map ei), .ro 5 p.code.length ((p.code).map eIns)] 26)] := by
  intro m
  induction m with
  | zero => intro i i1 i2 hm; exact absurd hm (Nat.not_lt_zero _)
  | succ m ih =>
    intro i i1 i2 hm
    rw [idx_l0]
    cases h2000 : (decide (i < (l.length : Int)))
    · have p2000 := of_decide_eq_false h2000
      exact good_run Try.func58 mixed 400 [(2000, .b false)] (all1 h2000) (by kernel_rfl)
    · have p2000 := of_decide_eq_true h2000
      cases h4005 : (strayf_s p (l.getD ((i).toNat) 0))
      · refine good_head (T := [(0, .ro 1 l.length ((l).map ei)), (1, .fn (Go.Fn.func 60) [] [.ptr 501 0]), (4, .v (.int .i64 0)), (7, .v (.int .i64 (l.length : Int))), (8, .v (.int .i64 (i + 1)))]) (H := [(501, .cells [.v (.int .i64 p.mem), .v (.int .i64 p.stack), .v (.int .i64 p.input), .ro 1 p.data.length ((p.data).map eb), .ro 1 p.funs.length ((p.funs).map ei), .ro 5 p.code.length ((p.code).map eIns)] 26)]) (todo' := headAt Try.f58 0) Try.func58 mixed 400 [(2000, .b true), (4003, .el (ei (l.getD ((i).toNat) 0))), (4005, .two (.call [501] [] (.v (.bool (strayf_s p (l.getD ((i).toNat) 0))))) (.b false)), (6000, .as_ (.v (.int .i64 (i + 1))))] (all6 h2000 (show (0 : Int) ≤ i by omega) (getg (l := l) (n := (i).toNat) ei 0 (by omega)) (strayf_ok p (l.getD ((i).toNat) 0) hp hf h0 (hl ((i).toNat) (by omega)).1 (hl ((i).toNat) (by omega)).2) h4005 (wr64 (x := i + 1) (by omega))) (by kernel_rfl) ?_
        exact ih (i + 1) (by omega) (by omega) (by omega)
      · exact good_run Try.func58 mixed 400 [(2000, .b true), (4003, .el (ei (l.getD ((i).toNat) 0))), (4005, .two (.call [501] [] (.v (.bool (strayf_s p (l.getD ((i).toNat) 0))))) (.b true))] (all5 h2000 (show (0 : Int) ≤ i by omega) (getg (l := l) (n := (i).toNat) ei 0 (by omega)) (strayf_ok p (l.getD ((i).toNat) 0) hp hf h0 (hl ((i).toNat) (by omega)).1 (hl ((i).toNat) (by omega)).2) h4005) (by kernel_rfl)
def idx_s (p : Img) (l : List Int) : Int := (idx_l0 p l (l.length - ((0) : Int).toNat + 1) 0)
set_option maxRecDepth 100000 in
theorem idx_ok (p : Img) (l : List Int) (hp : Small p) (hf : 0 < p.funs.length) (h0 : p.funs.getD 0 0 = 0) (hn : l.length < 2 ^ 40) (hl : ∀ n, n < l.length → 0 ≤ l.getD n 0 ∧ l.getD n 0 < p.code.length) : Ok Try.prog 58 [.ro 1 l.length ((l).map ei), .fn (Go.Fn.func 60) [] [.ptr 501 0]] (look [(501, .cells [.v (.int .i64 p.mem), .v (.int .i64 p.stack), .v (.int .i64 p.input), .ro 1 p.data.length ((p.data).map eb), .ro 1 p.funs.length ((p.funs).map ei), .ro 5 p.code.length ((p.code).map eIns)] 26)]) (.v (.int .i64 (idx_s p l))) (postOf [(501, .cells [.v (.int .i64 p.mem), .v (.int .i64 p.stack), .v (.int .i64 p.input), .ro 1 p.data.length ((p.data).map eb), .ro 1 p.funs.length ((p.funs).map ei), .ro 5 p.code.length ((p.code).map eIns)] 26)] []) := by
  unfold idx_s
  refine ok_head (T := [(0, .ro 1 l.length ((l).map ei)), (1, .fn (Go.Fn.func 60) [] [.ptr 501 0]), (4, .v (.int .i64 0)), (7, .v (.int .i64 (l.length : Int))), (8, .v (.int .i64 0))]) (H := [(501, .cells [.v (.int .i64 p.mem), .v (.int .i64 p.stack), .v (.int .i64 p.input), .ro 1 p.data.length ((p.data).map eb), .ro 1 p.funs.length ((p.funs).map ei), .ro 5 p.code.length ((p.code).map eIns)] 26)]) (todo := headAt Try.f58 0) Try.func58 rfl rfl mixed 400 [] (all0) (by kernel_rfl) ?_
  exact idx_lok0 p l hp hf h0 hn hl _ 0 (by omega) (by omega) (Nat.lt_succ_self _)

def stray_s (p : Img) : Int := (idx_s p (places_s p))
set_option maxRecDepth 100000 in
theorem stray_ok (p : Img) (hp : Small p) (hf : 0 < p.funs.length) (h0 : p.funs.getD 0 0 = 0) : Ok Try.prog 36 [.agg [.v (.int .i64 p.mem), .v (.int .i64 p.stack), .v (.int .i64 p.input), .ro 1 p.data.length ((p.data).map eb), .ro 1 p.funs.length ((p.funs).map ei), .ro 5 p.code.length ((p.code).map eIns)]] (look []) (.v (.int .i64 (stray_s p))) (postOf [] []) := by
  unfold stray_s
  have := hp.1; have := hp.2.1; have := hp.2.2
  exact ok_run Try.func36 rfl rfl mixed 400 [(0, .nm 501), (1001, .call [] [] (.ro 1 ((places_s p).length) ((places_s p).map ei))), (1003, .call [501] [] (.v (.int .i64 (idx_s p (places_s p)))))] (all2 (places_ok p hp) (idx_ok p (places_s p) hp hf h0 (by rw [(places_eq p).1]; exact hp.2.2) (fun n hn => by have h1 := (places_eq p).1; have h2 := (places_eq p).2 n (by omega); omega))) (by kernel_rfl)

theorem sizes_t {p : Img} (h : sizes_s p = true) : 0 < p.funs.length ∧ p.funs.getD 0 0 = 0 := by
  unfold sizes_s at h
  cases h1 : within_s p.mem 0 64 <;> rw [h1] at h <;> simp only [Bool.not_true, Bool.not_false, cond_true, cond_false, Bool.false_eq_true] at h
  cases h2 : within_s p.stack 0 16 <;> rw [h2] at h <;> simp only [Bool.not_true, Bool.not_false, cond_true, cond_false, Bool.false_eq_true] at h
  cases h3 : within_s p.input 0 16 <;> rw [h3] at h <;> simp only [Bool.not_true, Bool.not_false, cond_true, cond_false, Bool.false_eq_true] at h
  cases h4 : decide ((p.data.length : Int) > p.mem) <;> rw [h4] at h <;> simp only [cond_true, cond_false, Bool.false_eq_true] at h
  cases h5 : within_s (p.funs.length : Int) 1 16 <;> rw [h5] at h <;> simp only [Bool.not_true, Bool.not_false, cond_true, cond_false, Bool.false_eq_true] at h
  cases h6 : (p.funs.getD 0 0 != 0) <;> rw [h6] at h <;> simp only [cond_true, cond_false, Bool.false_eq_true] at h
  have := within_t h5
  exact ⟨by omega, by simpa using h6⟩

def encode_l1 (p : Img) : Nat → Int → List Int → List Int × Int
  | 0, _, _ => default
  | m + 1, i, out => (bif decide (i < (p.code.length : Int)) then (bif ((put_s (p.code.getD ((i).toNat) default)).2) != (0 : Int) then (([] : List Int), (put_s (p.code.getD ((i).toNat) default)).2) else (encode_l1 p m (i + 1) (out ++ ((put_s (p.code.getD ((i).toNat) default)).1)))) else (bif decide ((stray_s p) ≥ (0 : Int)) then (([] : List Int), (7 : Int)) else (out, (0 : Int))))
set_option maxRecDepth 100000 in
theorem encode_lok1 (p : Img) (hp : Small p) : ∀ (m : Nat) (i : Int) (out : List Int), (0 ≤ i) → (i ≤ p.code.length) → ((out.length : Int) ≤ 2 ^ 43 + 12 * i) → (0 < p.funs.length) → (p.funs.getD 0 0 = 0) → p.code.length - (i : Int).toNat < m → Good Try.prog 22 Try.f22.ntmps (look []) false (.tup [.ro 1 (((encode_l1 p m i out).1).length) (((encode_l1 p m i out).1).map eb), .v (.int .i64 ((encode_l1 p m i out).2))]) (postOf [] []) (headAt Try.f22 1) [(1, .ptr 101 0), (2, .v (.slice none 0 0)), (3, .v (.int .i64 0)), (4, .own 152), (70, .ro 5 p.code.length ((p.code).map eIns)), (71, .v (.int .i64 (p.code.length : Int))), (72, .v (.int .i64 i))] [(101, .cells [.v (.int .i64 p.mem), .v (.int .i64 p.stack), .v (.int .i64 p.input), .ro 1 p.data.length ((p.data).map eb), .ro 1 p.funs.length ((p.funs).map ei), .ro 5 p.code.length ((p.code).map eIns)] 26), (103, .row 1 5 (([1, IntKind.u8.wrap (p.mem), IntKind.u8.wrap (p.stack), IntKind.u8.wrap (p.input), IntKind.u8.wrap ((p.data.length : Int))] : List Int).length) (([1, IntKind.u8.wrap (p.mem), IntKind.u8.wrap (p.stack), IntKind.u8.wrap (p.input), IntKind.u8.wrap ((p.data.length : Int))] : List Int).map eb)), (106, .row 1 5 (([IntKind.u8.wrap ((p.funs.length : Int))] : List Int).length) (([IntKind.u8.wrap ((p.funs.length : Int))] : List Int).map eb)), (151, .row 1 5 (([IntKind.u8.wrap ((p.code.length : Int).fdiv (2 ^ 8)), IntKind.u8.wrap ((p.code.length : Int))] : List Int).length) (([IntKind.u8.wrap ((p.code.length : Int).fdiv (2 ^ 8)), IntKind.u8.wrap ((p.code.length : Int))] : List Int).map eb)), (152, .row 1 5 out.length ((out).map eb))] := by
  intro m
  induction m with
  | zero => intro i out i1 i2 i3 i4 i5 hm; exact absurd hm (Nat.not_lt_zero _)
  | succ m ih =>
    intro i out i1 i2 i3 i4 i5 hm
    rw [encode_l1]
    have := hp.1; have := hp.2.1; have := hp.2.2
    cases h12000 : (decide (i < (p.code.length : Int)))
    · have p12000 := of_decide_eq_false h12000
      cases h19002 : (decide ((stray_s p) ≥ (0 : Int)))
      · have p19002 := of_decide_eq_false h19002
        refine Good.freeze (n := 152) (by rfl) ?_
        exact good_run Try.func22 mixed 400 [(12000, .b false), (19001, .call [] [] (.v (.int .i64 (stray_s p)))), (19002, .b false)] (all3 h12000 (stray_ok p hp (by first | assumption | exact (sizes_t (notF (by assumption))).1) (by first | assumption | exact (sizes_t (notF (by assumption))).2)) h19002) (by kernel_rfl)
      · have p19002 := of_decide_eq_true h19002
        refine Good.le (res := .tup [.v (.slice none 0 0), .v (.int .i64 7)]) ?_ (by repeat (first | exact LeA.refl _ | exact LeA.nil _ | exact LeL.nil | apply LeA.tup | apply LeA.agg | apply LeA.vagg | apply LeL.cons | apply LeA.ifc))
        exact good_run Try.func22 mixed 400 [(12000, .b false), (19001, .call [] [] (.v (.int .i64 (stray_s p)))), (19002, .b true)] (all3 h12000 (stray_ok p hp (by first | assumption | exact (sizes_t (notF (by assumption))).1) (by first | assumption | exact (sizes_t (notF (by assumption))).2)) h19002) (by kernel_rfl)
    · have p12000 := of_decide_eq_true h12000
      cases h15001 : (((put_s (p.code.getD ((i).toNat) default)).2) != (0 : Int))
      · have p15001 := bne_eq_false_iff_eq.1 h15001
        refine good_head (T := [(1, .ptr 101 0), (2, .v (.slice none 0 0)), (3, .v (.int .i64 0)), (4, .own 202), (70, .ro 5 p.code.length ((p.code).map eIns)), (71, .v (.int .i64 (p.code.length : Int))), (72, .v (.int .i64 (i + 1)))]) (H := [(101, .cells [.v (.int .i64 p.mem), .v (.int .i64 p.stack), .v (.int .i64 p.input), .ro 1 p.data.length ((p.data).map eb), .ro 1 p.funs.length ((p.funs).map ei), .ro 5 p.code.length ((p.code).map eIns)] 26), (103, .row 1 5 (([1, IntKind.u8.wrap (p.mem), IntKind.u8.wrap (p.stack), IntKind.u8.wrap (p.input), IntKind.u8.wrap ((p.data.length : Int))] : List Int).length) (([1, IntKind.u8.wrap (p.mem), IntKind.u8.wrap (p.stack), IntKind.u8.wrap (p.input), IntKind.u8.wrap ((p.data.length : Int))] : List Int).map eb)), (106, .row 1 5 (([IntKind.u8.wrap ((p.funs.length : Int))] : List Int).length) (([IntKind.u8.wrap ((p.funs.length : Int))] : List Int).map eb)), (151, .row 1 5 (([IntKind.u8.wrap ((p.code.length : Int).fdiv (2 ^ 8)), IntKind.u8.wrap ((p.code.length : Int))] : List Int).length) (([IntKind.u8.wrap ((p.code.length : Int).fdiv (2 ^ 8)), IntKind.u8.wrap ((p.code.length : Int))] : List Int).map eb)), (202, .row 1 5 ((out ++ ((put_s (p.code.getD ((i).toNat) default)).1)).length) ((out ++ ((put_s (p.code.getD ((i).toNat) default)).1)).map eb))]) (todo' := headAt Try.f22 1) Try.func22 mixed 400 [(12000, .b true), (13000, .el (eIns (p.code.getD ((i).toNat) default))), (13002, .nm 201), (14001, .call [] [] (.tup [.ro 1 (((put_s (p.code.getD ((i).toNat) default)).1).length) (((put_s (p.code.getD ((i).toNat) default)).1).map eb), .v (.int .i64 ((put_s (p.code.getD ((i).toNat) default)).2))])), (15001, .b false), (17002, .app 202 ((out ++ ((put_s (p.code.getD ((i).toNat) default)).1)).length) ((out ++ ((put_s (p.code.getD ((i).toNat) default)).1)).map eb)), (18000, .as_ (.v (.int .i64 (i + 1))))] (.cons h12000 (.cons (show (0 : Int) ≤ i by omega) (all8 (getg (l := p.code) (n := (i).toNat) eIns default (by omega)) (put_ok (p.code.getD ((i).toNat) default) ) h15001 (oneE eb (fun _ => rfl) ((put_s (p.code.getD ((i).toNat) default)).1)) (show (out.length + ((put_s (p.code.getD ((i).toNat) default)).1).length) * 1 ≤ 140737488355328 by have := put_len (p.code.getD ((i).toNat) default); (first | omega | (simp only [List.length_append, List.length_cons, List.length_nil, List.length_map, List.length_take, List.length_drop, List.length_replicate, maxLen] <;> omega))) (show out.length + ((put_s (p.code.getD ((i).toNat) default)).1).length ≤ maxLen by have := put_len (p.code.getD ((i).toNat) default); (first | omega | (simp only [List.length_append, List.length_cons, List.length_nil, List.length_map, List.length_take, List.length_drop, List.length_replicate, maxLen] <;> omega))) (appE eb out ((put_s (p.code.getD ((i).toNat) default)).1)) (wr64 (x := i + 1) (by omega))))) (by kernel_rfl) ?_
        refine Good.ren 202 152 (by kernel_rfl) ?_
        exact Good.cast (by kernel_rfl) (by kernel_rfl) (ih (i + 1) (out ++ ((put_s (p.code.getD ((i).toNat) default)).1)) (by omega) (by omega) (by first | omega | (have := put_len (p.code.getD i.toNat default); (first | omega | (simp only [List.length_set, List.length_append, List.length_cons, List.length_nil, List.length_map, List.length_take, List.length_drop, List.length_replicate] <;> omega) | (simp only [List.length_set, List.length_append, List.length_cons, List.length_nil, List.length_map, List.length_take, List.length_drop, List.length_replicate] at * <;> omega)))) (by first | assumption | exact (sizes_t (notF (by assumption))).1) (by first | assumption | exact (sizes_t (notF (by assumption))).2) (by omega))
      · have p15001 := bne_iff_ne.1 h15001
        refine Good.le (res := .tup [.v (.slice none 0 0), .v (.int .i64 ((put_s (p.code.getD ((i).toNat) default)).2))]) ?_ (by repeat (first | exact LeA.refl _ | exact LeA.nil _ | exact LeL.nil | apply LeA.tup | apply LeA.agg | apply LeA.vagg | apply LeL.cons | apply LeA.ifc))
        exact good_run Try.func22 mixed 400 [(12000, .b true), (13000, .el (eIns (p.code.getD ((i).toNat) default))), (13002, .nm 201), (14001, .call [] [] (.tup [.ro 1 (((put_s (p.code.getD ((i).toNat) default)).1).length) (((put_s (p.code.getD ((i).toNat) default)).1).map eb), .v (.int .i64 ((put_s (p.code.getD ((i).toNat) default)).2))])), (15001, .b true)] (all5 h12000 (show (0 : Int) ≤ i by omega) (getg (l := p.code) (n := (i).toNat) eIns default (by omega)) (put_ok (p.code.getD ((i).toNat) default) ) h15001) (by kernel_rfl)
def encode_l0 (p : Img) : Nat → Int → List Int → List Int × Int
  | 0, _, _ => default
  | m + 1, i, out => (bif decide (i < (p.funs.length : Int)) then (encode_l0 p m (i + 1) (out ++ ([IntKind.u8.wrap ((p.funs.getD ((i).toNat) 0).fdiv (2 ^ 8)), IntKind.u8.wrap ((p.funs.getD ((i).toNat) 0))] : List Int))) else (encode_l1 p (p.code.length - ((0) : Int).toNat + 1) 0 (out ++ ([IntKind.u8.wrap ((p.code.length : Int).fdiv (2 ^ 8)), IntKind.u8.wrap ((p.code.length : Int))] : List Int))))
set_option maxRecDepth 100000 in
theorem encode_lok0 (p : Img) (hp : Small p) : ∀ (m : Nat) (i : Int) (out : List Int), (0 ≤ i) → (i ≤ p.funs.length) → ((out.length : Int) ≤ 2 ^ 41 + 2 * i) → (0 < p.funs.length) → (p.funs.getD 0 0 = 0) → p.funs.length - (i : Int).toNat < m → Good Try.prog 22 Try.f22.ntmps (look []) false (.tup [.ro 1 (((encode_l0 p m i out).1).length) (((encode_l0 p m i out).1).map eb), .v (.int .i64 ((encode_l0 p m i out).2))]) (postOf [] []) (headAt Try.f22 0) [(1, .ptr 101 0), (2, .v (.slice none 0 0)), (3, .v (.int .i64 0)), (4, .own 107), (42, .ro 1 p.funs.length ((p.funs).map ei)), (43, .v (.int .i64 (p.funs.length : Int))), (44, .v (.int .i64 i))] [(101, .cells [.v (.int .i64 p.mem), .v (.int .i64 p.stack), .v (.int .i64 p.input), .ro 1 p.data.length ((p.data).map eb), .ro 1 p.funs.length ((p.funs).map ei), .ro 5 p.code.length ((p.code).map eIns)] 26), (103, .row 1 5 (([1, IntKind.u8.wrap (p.mem), IntKind.u8.wrap (p.stack), IntKind.u8.wrap (p.input), IntKind.u8.wrap ((p.data.length : Int))] : List Int).length) (([1, IntKind.u8.wrap (p.mem), IntKind.u8.wrap (p.stack), IntKind.u8.wrap (p.input), IntKind.u8.wrap ((p.data.length : Int))] : List Int).map eb)), (106, .row 1 5 (([IntKind.u8.wrap ((p.funs.length : Int))] : List Int).length) (([IntKind.u8.wrap ((p.funs.length : Int))] : List Int).map eb)), (107, .row 1 5 out.length ((out).map eb))] := by
  intro m
  induction m with
  | zero => intro i out i1 i2 i3 i4 i5 hm; exact absurd hm (Nat.not_lt_zero _)
  | succ m ih =>
    intro i out i1 i2 i3 i4 i5 hm
    rw [encode_l0]
    have := hp.1; have := hp.2.1; have := hp.2.2
    cases h6000 : (decide (i < (p.funs.length : Int)))
    · have p6000 := of_decide_eq_false h6000
      refine good_head (T := [(1, .ptr 101 0), (2, .v (.slice none 0 0)), (3, .v (.int .i64 0)), (4, .own 152), (70, .ro 5 p.code.length ((p.code).map eIns)), (71, .v (.int .i64 (p.code.length : Int))), (72, .v (.int .i64 0))]) (H := [(101, .cells [.v (.int .i64 p.mem), .v (.int .i64 p.stack), .v (.int .i64 p.input), .ro 1 p.data.length ((p.data).map eb), .ro 1 p.funs.length ((p.funs).map ei), .ro 5 p.code.length ((p.code).map eIns)] 26), (103, .row 1 5 (([1, IntKind.u8.wrap (p.mem), IntKind.u8.wrap (p.stack), IntKind.u8.wrap (p.input), IntKind.u8.wrap ((p.data.length : Int))] : List Int).length) (([1, IntKind.u8.wrap (p.mem), IntKind.u8.wrap (p.stack), IntKind.u8.wrap (p.input), IntKind.u8.wrap ((p.data.length : Int))] : List Int).map eb)), (106, .row 1 5 (([IntKind.u8.wrap ((p.funs.length : Int))] : List Int).length) (([IntKind.u8.wrap ((p.funs.length : Int))] : List Int).map eb)), (151, .row 1 5 (([IntKind.u8.wrap ((p.code.length : Int).fdiv (2 ^ 8)), IntKind.u8.wrap ((p.code.length : Int))] : List Int).length) (([IntKind.u8.wrap ((p.code.length : Int).fdiv (2 ^ 8)), IntKind.u8.wrap ((p.code.length : Int))] : List Int).map eb)), (152, .row 1 5 ((out ++ ([IntKind.u8.wrap ((p.code.length : Int).fdiv (2 ^ 8)), IntKind.u8.wrap ((p.code.length : Int))] : List Int)).length) ((out ++ ([IntKind.u8.wrap ((p.code.length : Int).fdiv (2 ^ 8)), IntKind.u8.wrap ((p.code.length : Int))] : List Int)).map eb))]) (todo' := headAt Try.f22 1) Try.func22 mixed 400 [(6000, .b false), (10010, .app 151 (([IntKind.u8.wrap ((p.code.length : Int).fdiv (2 ^ 8)), IntKind.u8.wrap ((p.code.length : Int))] : List Int).length) (([IntKind.u8.wrap ((p.code.length : Int).fdiv (2 ^ 8)), IntKind.u8.wrap ((p.code.length : Int))] : List Int).map eb)), (10011, .app 152 ((out ++ ([IntKind.u8.wrap ((p.code.length : Int).fdiv (2 ^ 8)), IntKind.u8.wrap ((p.code.length : Int))] : List Int)).length) ((out ++ ([IntKind.u8.wrap ((p.code.length : Int).fdiv (2 ^ 8)), IntKind.u8.wrap ((p.code.length : Int))] : List Int)).map eb))] (all6 h6000 (And.intro (Eq.refl (([IntKind.u8.wrap ((p.code.length : Int).fdiv (2 ^ 8)), IntKind.u8.wrap ((p.code.length : Int))] : List Int).map eb)) (Eq.refl (([IntKind.u8.wrap ((p.code.length : Int).fdiv (2 ^ 8)), IntKind.u8.wrap ((p.code.length : Int))] : List Int).length))) (oneE eb (fun _ => rfl) ([IntKind.u8.wrap ((p.code.length : Int).fdiv (2 ^ 8)), IntKind.u8.wrap ((p.code.length : Int))] : List Int)) (show (out.length + ([IntKind.u8.wrap ((p.code.length : Int).fdiv (2 ^ 8)), IntKind.u8.wrap ((p.code.length : Int))] : List Int).length) * 1 ≤ 140737488355328 by (first | omega | (simp only [List.length_append, List.length_cons, List.length_nil, List.length_map, List.length_take, List.length_drop, List.length_replicate, maxLen] <;> omega))) (show out.length + ([IntKind.u8.wrap ((p.code.length : Int).fdiv (2 ^ 8)), IntKind.u8.wrap ((p.code.length : Int))] : List Int).length ≤ maxLen by (first | omega | (simp only [List.length_append, List.length_cons, List.length_nil, List.length_map, List.length_take, List.length_drop, List.length_replicate, maxLen] <;> omega))) (appE eb out ([IntKind.u8.wrap ((p.code.length : Int).fdiv (2 ^ 8)), IntKind.u8.wrap ((p.code.length : Int))] : List Int))) (by kernel_rfl) ?_
      exact encode_lok1 p hp _ 0 (out ++ ([IntKind.u8.wrap ((p.code.length : Int).fdiv (2 ^ 8)), IntKind.u8.wrap ((p.code.length : Int))] : List Int)) (by omega) (by omega) (by first | omega | (have := put_len (p.code.getD i.toNat default); (first | omega | (simp only [List.length_set, List.length_append, List.length_cons, List.length_nil, List.length_map, List.length_take, List.length_drop, List.length_replicate] <;> omega) | (simp only [List.length_set, List.length_append, List.length_cons, List.length_nil, List.length_map, List.length_take, List.length_drop, List.length_replicate] at * <;> omega)))) (by first | assumption | exact (sizes_t (notF (by assumption))).1) (by first | assumption | exact (sizes_t (notF (by assumption))).2) (Nat.lt_succ_self _)
    · have p6000 := of_decide_eq_true h6000
      refine good_head (T := [(1, .ptr 101 0), (2, .v (.slice none 0 0)), (3, .v (.int .i64 0)), (4, .own 152), (42, .ro 1 p.funs.length ((p.funs).map ei)), (43, .v (.int .i64 (p.funs.length : Int))), (44, .v (.int .i64 (i + 1)))]) (H := [(101, .cells [.v (.int .i64 p.mem), .v (.int .i64 p.stack), .v (.int .i64 p.input), .ro 1 p.data.length ((p.data).map eb), .ro 1 p.funs.length ((p.funs).map ei), .ro 5 p.code.length ((p.code).map eIns)] 26), (103, .row 1 5 (([1, IntKind.u8.wrap (p.mem), IntKind.u8.wrap (p.stack), IntKind.u8.wrap (p.input), IntKind.u8.wrap ((p.data.length : Int))] : List Int).length) (([1, IntKind.u8.wrap (p.mem), IntKind.u8.wrap (p.stack), IntKind.u8.wrap (p.input), IntKind.u8.wrap ((p.data.length : Int))] : List Int).map eb)), (106, .row 1 5 (([IntKind.u8.wrap ((p.funs.length : Int))] : List Int).length) (([IntKind.u8.wrap ((p.funs.length : Int))] : List Int).map eb)), (152, .row 1 5 ((out ++ ([IntKind.u8.wrap ((p.funs.getD ((i).toNat) 0).fdiv (2 ^ 8)), IntKind.u8.wrap ((p.funs.getD ((i).toNat) 0))] : List Int)).length) ((out ++ ([IntKind.u8.wrap ((p.funs.getD ((i).toNat) 0).fdiv (2 ^ 8)), IntKind.u8.wrap ((p.funs.getD ((i).toNat) 0))] : List Int)).map eb))]) (todo' := headAt Try.f22 0) Try.func22 mixed 400 [(6000, .b true), (7000, .el (ei (p.funs.getD ((i).toNat) 0))), (8006, .app 151 (([IntKind.u8.wrap ((p.funs.getD ((i).toNat) 0).fdiv (2 ^ 8)), IntKind.u8.wrap ((p.funs.getD ((i).toNat) 0))] : List Int).length) (([IntKind.u8.wrap ((p.funs.getD ((i).toNat) 0).fdiv (2 ^ 8)), IntKind.u8.wrap ((p.funs.getD ((i).toNat) 0))] : List Int).map eb)), (8007, .app 152 ((out ++ ([IntKind.u8.wrap ((p.funs.getD ((i).toNat) 0).fdiv (2 ^ 8)), IntKind.u8.wrap ((p.funs.getD ((i).toNat) 0))] : List Int)).length) ((out ++ ([IntKind.u8.wrap ((p.funs.getD ((i).toNat) 0).fdiv (2 ^ 8)), IntKind.u8.wrap ((p.funs.getD ((i).toNat) 0))] : List Int)).map eb)), (9000, .as_ (.v (.int .i64 (i + 1))))] (.cons h6000 (all8 (show (0 : Int) ≤ i by omega) (getg (l := p.funs) (n := (i).toNat) ei 0 (by omega)) (And.intro (Eq.refl (([IntKind.u8.wrap ((p.funs.getD ((i).toNat) 0).fdiv (2 ^ 8)), IntKind.u8.wrap ((p.funs.getD ((i).toNat) 0))] : List Int).map eb)) (Eq.refl (([IntKind.u8.wrap ((p.funs.getD ((i).toNat) 0).fdiv (2 ^ 8)), IntKind.u8.wrap ((p.funs.getD ((i).toNat) 0))] : List Int).length))) (oneE eb (fun _ => rfl) ([IntKind.u8.wrap ((p.funs.getD ((i).toNat) 0).fdiv (2 ^ 8)), IntKind.u8.wrap ((p.funs.getD ((i).toNat) 0))] : List Int)) (show (out.length + ([IntKind.u8.wrap ((p.funs.getD ((i).toNat) 0).fdiv (2 ^ 8)), IntKind.u8.wrap ((p.funs.getD ((i).toNat) 0))] : List Int).length) * 1 ≤ 140737488355328 by (first | omega | (simp only [List.length_append, List.length_cons, List.length_nil, List.length_map, List.length_take, List.length_drop, List.length_replicate, maxLen] <;> omega))) (show out.length + ([IntKind.u8.wrap ((p.funs.getD ((i).toNat) 0).fdiv (2 ^ 8)), IntKind.u8.wrap ((p.funs.getD ((i).toNat) 0))] : List Int).length ≤ maxLen by (first | omega | (simp only [List.length_append, List.length_cons, List.length_nil, List.length_map, List.length_take, List.length_drop, List.length_replicate, maxLen] <;> omega))) (appE eb out ([IntKind.u8.wrap ((p.funs.getD ((i).toNat) 0).fdiv (2 ^ 8)), IntKind.u8.wrap ((p.funs.getD ((i).toNat) 0))] : List Int)) (wr64 (x := i + 1) (by omega)))) (by kernel_rfl) ?_
      refine Good.ren 152 107 (by kernel_rfl) ?_
      exact Good.cast (by kernel_rfl) (by kernel_rfl) (ih (i + 1) (out ++ ([IntKind.u8.wrap ((p.funs.getD ((i).toNat) 0).fdiv (2 ^ 8)), IntKind.u8.wrap ((p.funs.getD ((i).toNat) 0))] : List Int)) (by omega) (by omega) (by (first | omega | (simp only [List.length_set, List.length_append, List.length_cons, List.length_nil, List.length_map, List.length_take, List.length_drop, List.length_replicate] <;> omega) | (simp only [List.length_set, List.length_append, List.length_cons, List.length_nil, List.length_map, List.length_take, List.length_drop, List.length_replicate] at * <;> omega))) (by first | assumption | exact (sizes_t (notF (by assumption))).1) (by first | assumption | exact (sizes_t (notF (by assumption))).2) (by omega))
def encode_s (p : Img) : List Int × Int := (bif !(sizes_s p) then (([] : List Int), (3 : Int)) else (encode_l0 p (p.funs.length - ((0) : Int).toNat + 1) 0 (((([82, 66, 54, 52] : List Int) ++ ([1, IntKind.u8.wrap (p.mem), IntKind.u8.wrap (p.stack), IntKind.u8.wrap (p.input), IntKind.u8.wrap ((p.data.length : Int))] : List Int)) ++ p.data) ++ ([IntKind.u8.wrap ((p.funs.length : Int))] : List Int))))
set_option maxRecDepth 100000 in
theorem encode_ok (p : Img) (hp : Small p) : Ok Try.prog 22 [.agg [.v (.int .i64 p.mem), .v (.int .i64 p.stack), .v (.int .i64 p.input), .ro 1 p.data.length ((p.data).map eb), .ro 1 p.funs.length ((p.funs).map ei), .ro 5 p.code.length ((p.code).map eIns)]] (look []) (.tup [.ro 1 (((encode_s p).1).length) (((encode_s p).1).map eb), .v (.int .i64 ((encode_s p).2))]) (postOf [] []) := by
  unfold encode_s
  have := hp.1; have := hp.2.1; have := hp.2.2
  cases h1002 : (!(sizes_s p))
  · have p1002 := sizes_t (notF h1002)
    refine ok_head (T := [(1, .ptr 101 0), (2, .v (.slice none 0 0)), (3, .v (.int .i64 0)), (4, .own 107), (42, .ro 1 p.funs.length ((p.funs).map ei)), (43, .v (.int .i64 (p.funs.length : Int))), (44, .v (.int .i64 0))]) (H := [(101, .cells [.v (.int .i64 p.mem), .v (.int .i64 p.stack), .v (.int .i64 p.input), .ro 1 p.data.length ((p.data).map eb), .ro 1 p.funs.length ((p.funs).map ei), .ro 5 p.code.length ((p.code).map eIns)] 26), (103, .row 1 5 (([1, IntKind.u8.wrap (p.mem), IntKind.u8.wrap (p.stack), IntKind.u8.wrap (p.input), IntKind.u8.wrap ((p.data.length : Int))] : List Int).length) (([1, IntKind.u8.wrap (p.mem), IntKind.u8.wrap (p.stack), IntKind.u8.wrap (p.input), IntKind.u8.wrap ((p.data.length : Int))] : List Int).map eb)), (106, .row 1 5 (([IntKind.u8.wrap ((p.funs.length : Int))] : List Int).length) (([IntKind.u8.wrap ((p.funs.length : Int))] : List Int).map eb)), (107, .row 1 5 ((((([82, 66, 54, 52] : List Int) ++ ([1, IntKind.u8.wrap (p.mem), IntKind.u8.wrap (p.stack), IntKind.u8.wrap (p.input), IntKind.u8.wrap ((p.data.length : Int))] : List Int)) ++ p.data) ++ ([IntKind.u8.wrap ((p.funs.length : Int))] : List Int)).length) ((((([82, 66, 54, 52] : List Int) ++ ([1, IntKind.u8.wrap (p.mem), IntKind.u8.wrap (p.stack), IntKind.u8.wrap (p.input), IntKind.u8.wrap ((p.data.length : Int))] : List Int)) ++ p.data) ++ ([IntKind.u8.wrap ((p.funs.length : Int))] : List Int)).map eb))]) (todo := headAt Try.f22 0) Try.func22 rfl rfl mixed 400 [(0, .nm 101), (1001, .call [] [] (.v (.bool (sizes_s p)))), (1002, .b false), (3000, .lit 102 (([82, 66, 54, 52] : List Int).length) (([82, 66, 54, 52] : List Int).map eb)), (3015, .app 103 (([1, IntKind.u8.wrap (p.mem), IntKind.u8.wrap (p.stack), IntKind.u8.wrap (p.input), IntKind.u8.wrap ((p.data.length : Int))] : List Int).length) (([1, IntKind.u8.wrap (p.mem), IntKind.u8.wrap (p.stack), IntKind.u8.wrap (p.input), IntKind.u8.wrap ((p.data.length : Int))] : List Int).map eb)), (3016, .app 104 ((([82, 66, 54, 52] : List Int) ++ ([1, IntKind.u8.wrap (p.mem), IntKind.u8.wrap (p.stack), IntKind.u8.wrap (p.input), IntKind.u8.wrap ((p.data.length : Int))] : List Int)).length) ((([82, 66, 54, 52] : List Int) ++ ([1, IntKind.u8.wrap (p.mem), IntKind.u8.wrap (p.stack), IntKind.u8.wrap (p.input), IntKind.u8.wrap ((p.data.length : Int))] : List Int)).map eb)), (4003, .app 105 (((([82, 66, 54, 52] : List Int) ++ ([1, IntKind.u8.wrap (p.mem), IntKind.u8.wrap (p.stack), IntKind.u8.wrap (p.input), IntKind.u8.wrap ((p.data.length : Int))] : List Int)) ++ p.data).length) (((([82, 66, 54, 52] : List Int) ++ ([1, IntKind.u8.wrap (p.mem), IntKind.u8.wrap (p.stack), IntKind.u8.wrap (p.input), IntKind.u8.wrap ((p.data.length : Int))] : List Int)) ++ p.data).map eb)), (4008, .app 106 (([IntKind.u8.wrap ((p.funs.length : Int))] : List Int).length) (([IntKind.u8.wrap ((p.funs.length : Int))] : List Int).map eb)), (4009, .app 107 ((((([82, 66, 54, 52] : List Int) ++ ([1, IntKind.u8.wrap (p.mem), IntKind.u8.wrap (p.stack), IntKind.u8.wrap (p.input), IntKind.u8.wrap ((p.data.length : Int))] : List Int)) ++ p.data) ++ ([IntKind.u8.wrap ((p.funs.length : Int))] : List Int)).length) ((((([82, 66, 54, 52] : List Int) ++ ([1, IntKind.u8.wrap (p.mem), IntKind.u8.wrap (p.stack), IntKind.u8.wrap (p.input), IntKind.u8.wrap ((p.data.length : Int))] : List Int)) ++ p.data) ++ ([IntKind.u8.wrap ((p.funs.length : Int))] : List Int)).map eb))] (.cons (sizes_ok p hp) (.cons h1002 (.cons (And.intro (Eq.refl (([82, 66, 54, 52] : List Int).map eb)) (Eq.refl (([82, 66, 54, 52] : List Int).length))) (.cons (And.intro (Eq.refl (([1, IntKind.u8.wrap (p.mem), IntKind.u8.wrap (p.stack), IntKind.u8.wrap (p.input), IntKind.u8.wrap ((p.data.length : Int))] : List Int).map eb)) (Eq.refl (([1, IntKind.u8.wrap (p.mem), IntKind.u8.wrap (p.stack), IntKind.u8.wrap (p.input), IntKind.u8.wrap ((p.data.length : Int))] : List Int).length))) (.cons (show 0 < ([1, IntKind.u8.wrap (p.mem), IntKind.u8.wrap (p.stack), IntKind.u8.wrap (p.input), IntKind.u8.wrap ((p.data.length : Int))] : List Int).length by (first | omega | (simp only [List.length_append, List.length_cons, List.length_nil, List.length_map, List.length_take, List.length_drop, List.length_replicate, maxLen] <;> omega))) (.cons (show (([82, 66, 54, 52] : List Int).length + ([1, IntKind.u8.wrap (p.mem), IntKind.u8.wrap (p.stack), IntKind.u8.wrap (p.input), IntKind.u8.wrap ((p.data.length : Int))] : List Int).length) * 1 ≤ 140737488355328 by (first | omega | (simp only [List.length_append, List.length_cons, List.length_nil, List.length_map, List.length_take, List.length_drop, List.length_replicate, maxLen] <;> omega))) (.cons (show ([82, 66, 54, 52] : List Int).length + ([1, IntKind.u8.wrap (p.mem), IntKind.u8.wrap (p.stack), IntKind.u8.wrap (p.input), IntKind.u8.wrap ((p.data.length : Int))] : List Int).length ≤ maxLen by (first | omega | (simp only [List.length_append, List.length_cons, List.length_nil, List.length_map, List.length_take, List.length_drop, List.length_replicate, maxLen] <;> omega))) (.cons (appE eb ([82, 66, 54, 52] : List Int) ([1, IntKind.u8.wrap (p.mem), IntKind.u8.wrap (p.stack), IntKind.u8.wrap (p.input), IntKind.u8.wrap ((p.data.length : Int))] : List Int)) (.cons (oneE eb (fun _ => rfl) p.data) (all8 (show ((([82, 66, 54, 52] : List Int) ++ ([1, IntKind.u8.wrap (p.mem), IntKind.u8.wrap (p.stack), IntKind.u8.wrap (p.input), IntKind.u8.wrap ((p.data.length : Int))] : List Int)).length + p.data.length) * 1 ≤ 140737488355328 by (first | omega | (simp only [List.length_append, List.length_cons, List.length_nil, List.length_map, List.length_take, List.length_drop, List.length_replicate, maxLen] <;> omega))) (show (([82, 66, 54, 52] : List Int) ++ ([1, IntKind.u8.wrap (p.mem), IntKind.u8.wrap (p.stack), IntKind.u8.wrap (p.input), IntKind.u8.wrap ((p.data.length : Int))] : List Int)).length + p.data.length ≤ maxLen by (first | omega | (simp only [List.length_append, List.length_cons, List.length_nil, List.length_map, List.length_take, List.length_drop, List.length_replicate, maxLen] <;> omega))) (appE eb (([82, 66, 54, 52] : List Int) ++ ([1, IntKind.u8.wrap (p.mem), IntKind.u8.wrap (p.stack), IntKind.u8.wrap (p.input), IntKind.u8.wrap ((p.data.length : Int))] : List Int)) p.data) (And.intro (Eq.refl (([IntKind.u8.wrap ((p.funs.length : Int))] : List Int).map eb)) (Eq.refl (([IntKind.u8.wrap ((p.funs.length : Int))] : List Int).length))) (oneE eb (fun _ => rfl) ([IntKind.u8.wrap ((p.funs.length : Int))] : List Int)) (show (((([82, 66, 54, 52] : List Int) ++ ([1, IntKind.u8.wrap (p.mem), IntKind.u8.wrap (p.stack), IntKind.u8.wrap (p.input), IntKind.u8.wrap ((p.data.length : Int))] : List Int)) ++ p.data).length + ([IntKind.u8.wrap ((p.funs.length : Int))] : List Int).length) * 1 ≤ 140737488355328 by (first | omega | (simp only [List.length_append, List.length_cons, List.length_nil, List.length_map, List.length_take, List.length_drop, List.length_replicate, maxLen] <;> omega))) (show ((([82, 66, 54, 52] : List Int) ++ ([1, IntKind.u8.wrap (p.mem), IntKind.u8.wrap (p.stack), IntKind.u8.wrap (p.input), IntKind.u8.wrap ((p.data.length : Int))] : List Int)) ++ p.data).length + ([IntKind.u8.wrap ((p.funs.length : Int))] : List Int).length ≤ maxLen by (first | omega | (simp only [List.length_append, List.length_cons, List.length_nil, List.length_map, List.length_take, List.length_drop, List.length_replicate, maxLen] <;> omega))) (appE eb ((([82, 66, 54, 52] : List Int) ++ ([1, IntKind.u8.wrap (p.mem), IntKind.u8.wrap (p.stack), IntKind.u8.wrap (p.input), IntKind.u8.wrap ((p.data.length : Int))] : List Int)) ++ p.data) ([IntKind.u8.wrap ((p.funs.length : Int))] : List Int)))))))))))) (by kernel_rfl) ?_
    exact encode_lok0 p hp _ 0 (((([82, 66, 54, 52] : List Int) ++ ([1, IntKind.u8.wrap (p.mem), IntKind.u8.wrap (p.stack), IntKind.u8.wrap (p.input), IntKind.u8.wrap ((p.data.length : Int))] : List Int)) ++ p.data) ++ ([IntKind.u8.wrap ((p.funs.length : Int))] : List Int)) (by omega) (by omega) (by (first | omega | (simp only [List.length_set, List.length_append, List.length_cons, List.length_nil, List.length_map, List.length_take, List.length_drop, List.length_replicate] <;> omega) | (simp only [List.length_set, List.length_append, List.length_cons, List.length_nil, List.length_map, List.length_take, List.length_drop, List.length_replicate] at * <;> omega))) (by first | assumption | exact (sizes_t (notF (by assumption))).1) (by first | assumption | exact (sizes_t (notF (by assumption))).2) (Nat.lt_succ_self _)
  · have p1002 := notT h1002
    refine Ok.le (res := .tup [.v (.slice none 0 0), .v (.int .i64 3)]) ?_ (by repeat (first | exact LeA.refl _ | exact LeA.nil _ | exact LeL.nil | apply LeA.tup | apply LeA.agg | apply LeA.vagg | apply LeL.cons | apply LeA.ifc))
    exact ok_run Try.func22 rfl rfl mixed 400 [(0, .nm 101), (1001, .call [] [] (.v (.bool (sizes_s p)))), (1002, .b true)] (all2 (sizes_ok p hp) h1002) (by kernel_rfl)
end Go.Proofs.Yteolbecihipcaaa.Sx.M5
