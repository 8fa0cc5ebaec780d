/- What the functions of a chapter compute, as contracts; written by a program of this session. -/
import Derived.Test.YtahobmjchppciaaDoorS4
open Go Go.Proofs Go.RowKit
namespace Go.Proofs.YtahobmjchppciaaDoor.Sx.M5
set_option linter.unusedVariables false
set_option linter.unusedSimpArgs false
/-- A node. -/
structure Nd where
  op : Int
  w : Int
  n : Int
  k : Nat → Int
instance : Inhabited Nd := ⟨⟨0, 0, 0, fun _ => 0⟩⟩
/-- What is known of a node's word. -/
structure Gu where
  lo : Int
  hi : Int
  z : Int
  e : Int
instance : Inhabited Gu := ⟨⟨0, 0, 0, 0⟩⟩
def eNd (x : Nd) : List Value := [.int .i64 x.op, .int .i64 x.w, .int .u64 x.n, .int .i64 (x.k 0), .int .i64 (x.k 1), .int .i64 (x.k 2)]
def eGu (x : Gu) : List Value := [.int .u64 x.lo, .int .u64 x.hi, .int .u64 x.z, .int .u64 x.e]
abbrev fv (n : Nat) : AV := .v (Value.func (Go.Fn.func n) #[] #[])
/-- Of a node at a place: its operation is one; its kids stand ahead of it. -/
structure NdOk (x : Nd) (j : Nat) : Prop where
  op : 0 ≤ x.op ∧ x.op ≤ 24
  k : 5 ≤ x.op → ∀ m, m < 3 → 0 ≤ x.k m ∧ x.k m < j
  w7 : x.op = 7 → x.w = 8
  n2 : x.op = 2 → x.n < 8
def NdsOk (l : List Nd) : Prop := ∀ j, j < l.length → NdOk (l.getD j default) j
abbrev U64 (x : Int) : Prop := 0 ≤ x ∧ x < 18446744073709551616
def GuR (g : Gu) : Prop := U64 g.lo ∧ U64 g.hi ∧ U64 g.z ∧ U64 g.e

def kids_s (op : Int) : Int := (bif decide (op < (5 : Int)) then (0 : Int) else (bif decide (op > (24 : Int)) then (0 : Int) else (bif decide (op ≤ (7 : Int)) then (1 : Int) else (bif decide (op ≤ (21 : Int)) then (2 : Int) else (bif op == (23 : Int) then (2 : Int) else (3 : Int))))))
set_option maxRecDepth 100000 in
theorem kids_ok (op : Int)  : Ok Tryd.prog 60 [.v (.int .i64 op)] (look []) (.v (.int .i64 (kids_s op))) (postOf [] []) := by
  unfold kids_s
  cases h1001 : (decide (op < (5 : Int)))
  · have p1001 := of_decide_eq_false h1001
    cases h1004 : (decide (op > (24 : Int)))
    · have p1004 := of_decide_eq_false h1004
      cases h3001 : (decide (op ≤ (7 : Int)))
      · have p3001 := of_decide_eq_false h3001
        cases h5001 : (decide (op ≤ (21 : Int)))
        · have p5001 := of_decide_eq_false h5001
          cases h5004 : (op == (23 : Int))
          · have p5004 := ne_of_beq_false h5004
            exact ok_run Tryd.func60 rfl rfl mixed 400 [(1001, .b false), (1004, .b false), (3001, .b false), (5001, .b false), (5004, .b false)] (all5 h1001 h1004 h3001 h5001 h5004) (by kernel_rfl)
          · have p5004 := eq_of_beq h5004
            exact ok_run Tryd.func60 rfl rfl mixed 400 [(1001, .b false), (1004, .b false), (3001, .b false), (5001, .b false), (5004, .b true)] (all5 h1001 h1004 h3001 h5001 h5004) (by kernel_rfl)
        · have p5001 := of_decide_eq_true h5001
          exact ok_run Tryd.func60 rfl rfl mixed 400 [(1001, .b false), (1004, .b false), (3001, .b false), (5001, .b true)] (all4 h1001 h1004 h3001 h5001) (by kernel_rfl)
      · have p3001 := of_decide_eq_true h3001
        exact ok_run Tryd.func60 rfl rfl mixed 400 [(1001, .b false), (1004, .b false), (3001, .b true)] (all3 h1001 h1004 h3001) (by kernel_rfl)
    · have p1004 := of_decide_eq_true h1004
      exact ok_run Tryd.func60 rfl rfl mixed 400 [(1001, .b false), (1004, .b true)] (all2 h1001 h1004) (by kernel_rfl)
  · have p1001 := of_decide_eq_true h1001
    exact ok_run Tryd.func60 rfl rfl mixed 400 [(1001, .b true)] (all1 h1001) (by kernel_rfl)

def tkid_l0 (x : Nd) (l : List Nd) : Nat → (Nat → Int) → Int → (Nat → Int) × Bool
  | 0, _, _ => default
  | m + 1, f, i => (bif decide (i < (3 : Int)) then (bif decide (i ≥ (kids_s x.op)) then (bif (x.k ((i).toNat)) != (0 : Int) then (f, false) else (tkid_l0 x l m f (i + 1))) else (bif decide ((x.k ((i).toNat)) < (0 : Int)) then (f, false) else (bif decide ((x.k ((i).toNat)) ≥ (l.length : Int)) then (f, false) else (tkid_l0 x l m (upd f ((i).toNat) ((l.getD ((x.k ((i).toNat)).toNat) default).w)) (i + 1))))) else (f, true))
set_option maxRecDepth 100000 in
theorem tkid_lok0 (x : Nd) (l : List Nd)  : ∀ (m : Nat) (f : (Nat → Int)) (i : Int), (0 ≤ i) → (3 - (i : Int)).toNat < m → Good Tryd.prog 37 Tryd.f37.ntmps (look []) false (.tup [.agg (cat [] (cat (arrA aI 3 ((tkid_l0 x l m f i).1)) [])), .v (.bool ((tkid_l0 x l m f i).2))]) (postOf [] []) (headAt Tryd.f37 0) [(1, .ro 6 l.length ((l).map eNd)), (2, .ptr 830 0), (4, .ptr 831 0), (5, .v (.bool false)), (6, .ptr 832 0), (7, .v (.int .i64 (kids_s x.op))), (12, .v (.int .i64 i))] [(830, .cells (cat [.v (.int .i64 x.op), .v (.int .i64 x.w), .v (.int .u64 x.n)] (cat (arrA aI 3 x.k) [])) 39), (831, .cells (cat [] (cat (arrA aI 3 (fun _ => 0)) [])) 37), (832, .cells (cat [] (cat (arrA aI 3 f) [])) 37)] := by
  intro m
  induction m with
  | zero => intro f i i0 hm; exact absurd hm (Nat.not_lt_zero _)
  | succ m ih =>
    intro f i i0 hm
    rw [tkid_l0]
    cases h4000 : (decide (i < (3 : Int)))
    · have p4000 := of_decide_eq_false h4000
      exact good_run Tryd.func37 mixed 400 [(4000, .b false)] (all1 h4000) (by kernel_rfl)
    · have p4000 := of_decide_eq_true h4000
      cases h7002 : (decide (i ≥ (kids_s x.op)))
      · have p7002 := of_decide_eq_false h7002
        cases h10004 : (decide ((x.k ((i).toNat)) < (0 : Int)))
        · have p10004 := of_decide_eq_false h10004
          cases h10012 : (decide ((x.k ((i).toNat)) ≥ (l.length : Int)))
          · have p10012 := of_decide_eq_false h10012
            refine good_head (T := [(1, .ro 6 l.length ((l).map eNd)), (2, .ptr 830 0), (4, .ptr 831 0), (5, .v (.bool false)), (6, .ptr 832 0), (7, .v (.int .i64 (kids_s x.op))), (12, .v (.int .i64 (i + 1)))]) (H := [(830, .cells (cat [.v (.int .i64 x.op), .v (.int .i64 x.w), .v (.int .u64 x.n)] (cat (arrA aI 3 x.k) [])) 39), (831, .cells (cat [] (cat (arrA aI 3 (fun _ => 0)) [])) 37), (832, .cells (cat [] (cat (arrA aI 3 (upd f ((i).toNat) ((l.getD ((x.k ((i).toNat)).toNat) default).w))) [])) 37)]) (todo' := headAt Tryd.f37 0) Tryd.func37 mixed 400 [(4000, .b true), (7002, .b false), (10002, .sym ((i).toNat)), (10003, .one (.v (.int .i64 (x.k ((i).toNat))))), (10004, .b false), (10008, .sym ((i).toNat)), (10009, .one (.v (.int .i64 (x.k ((i).toNat))))), (10012, .b false), (6004, .sym ((i).toNat)), (6005, .one (.v (.int .i64 (x.k ((i).toNat))))), (6006, .el (eNd (l.getD ((x.k ((i).toNat)).toNat) default))), (6009, .sym ((i).toNat)), (6010, .cls (cat [] (cat (arrA aI 3 (upd f ((i).toNat) ((l.getD ((x.k ((i).toNat)).toNat) default).w))) []))), (12000, .as_ (.v (.int .i64 (i + 1))))] (.cons h4000 (.cons h7002 (.cons (show i = (((i).toNat : Nat) : Int) by omega) (.cons (show (i).toNat < 3 by omega) (.cons (seg_get [.v (.int .i64 x.op), .v (.int .i64 x.w), .v (.int .u64 x.n)] aI 3 x.k [] ((i).toNat) (by omega)) (.cons h10004 (.cons (show i = (((i).toNat : Nat) : Int) by omega) (.cons (show (i).toNat < 3 by omega) (.cons (seg_get [.v (.int .i64 x.op), .v (.int .i64 x.w), .v (.int .u64 x.n)] aI 3 x.k [] ((i).toNat) (by omega)) (.cons h10012 (.cons (show i = (((i).toNat : Nat) : Int) by omega) (.cons (show (i).toNat < 3 by omega) (all8 (seg_get [.v (.int .i64 x.op), .v (.int .i64 x.w), .v (.int .u64 x.n)] aI 3 x.k [] ((i).toNat) (by omega)) (show (0 : Int) ≤ x.k ((i).toNat) by omega) (getg (l := l) (n := (x.k ((i).toNat)).toNat) eNd default (by omega)) (show i = (((i).toNat : Nat) : Int) by omega) (show (i).toNat < 3 by omega) (seg_le [] aI 3 f [] ((i).toNat) ((l.getD ((x.k ((i).toNat)).toNat) default).w) (by omega)) (seg_set [] aI 3 f [] ((i).toNat) ((l.getD ((x.k ((i).toNat)).toNat) default).w) (by omega)) (wr64 (x := i + 1) (by omega))))))))))))))) (by kernel_rfl) ?_
            exact ih (upd f ((i).toNat) ((l.getD ((x.k ((i).toNat)).toNat) default).w)) (i + 1) (by omega) (by omega)
          · have p10012 := of_decide_eq_true h10012
            exact good_run Tryd.func37 mixed 400 [(4000, .b true), (7002, .b false), (10002, .sym ((i).toNat)), (10003, .one (.v (.int .i64 (x.k ((i).toNat))))), (10004, .b false), (10008, .sym ((i).toNat)), (10009, .one (.v (.int .i64 (x.k ((i).toNat))))), (10012, .b true)] (.cons h4000 (.cons h7002 (all8 (show i = (((i).toNat : Nat) : Int) by omega) (show (i).toNat < 3 by omega) (seg_get [.v (.int .i64 x.op), .v (.int .i64 x.w), .v (.int .u64 x.n)] aI 3 x.k [] ((i).toNat) (by omega)) h10004 (show i = (((i).toNat : Nat) : Int) by omega) (show (i).toNat < 3 by omega) (seg_get [.v (.int .i64 x.op), .v (.int .i64 x.w), .v (.int .u64 x.n)] aI 3 x.k [] ((i).toNat) (by omega)) h10012))) (by kernel_rfl)
        · have p10004 := of_decide_eq_true h10004
          exact good_run Tryd.func37 mixed 400 [(4000, .b true), (7002, .b false), (10002, .sym ((i).toNat)), (10003, .one (.v (.int .i64 (x.k ((i).toNat))))), (10004, .b true)] (all6 h4000 h7002 (show i = (((i).toNat : Nat) : Int) by omega) (show (i).toNat < 3 by omega) (seg_get [.v (.int .i64 x.op), .v (.int .i64 x.w), .v (.int .u64 x.n)] aI 3 x.k [] ((i).toNat) (by omega)) h10004) (by kernel_rfl)
      · have p7002 := of_decide_eq_true h7002
        cases h8004 : ((x.k ((i).toNat)) != (0 : Int))
        · have p8004 := bne_eq_false_iff_eq.1 h8004
          refine good_head (T := [(1, .ro 6 l.length ((l).map eNd)), (2, .ptr 830 0), (4, .ptr 831 0), (5, .v (.bool false)), (6, .ptr 832 0), (7, .v (.int .i64 (kids_s x.op))), (12, .v (.int .i64 (i + 1)))]) (H := [(830, .cells (cat [.v (.int .i64 x.op), .v (.int .i64 x.w), .v (.int .u64 x.n)] (cat (arrA aI 3 x.k) [])) 39), (831, .cells (cat [] (cat (arrA aI 3 (fun _ => 0)) [])) 37), (832, .cells (cat [] (cat (arrA aI 3 f) [])) 37)]) (todo' := headAt Tryd.f37 0) Tryd.func37 mixed 400 [(4000, .b true), (7002, .b true), (8002, .sym ((i).toNat)), (8003, .one (.v (.int .i64 (x.k ((i).toNat))))), (8004, .b false), (12000, .as_ (.v (.int .i64 (i + 1))))] (all7 h4000 h7002 (show i = (((i).toNat : Nat) : Int) by omega) (show (i).toNat < 3 by omega) (seg_get [.v (.int .i64 x.op), .v (.int .i64 x.w), .v (.int .u64 x.n)] aI 3 x.k [] ((i).toNat) (by omega)) h8004 (wr64 (x := i + 1) (by omega))) (by kernel_rfl) ?_
          exact ih f (i + 1) (by omega) (by omega)
        · have p8004 := bne_iff_ne.1 h8004
          exact good_run Tryd.func37 mixed 400 [(4000, .b true), (7002, .b true), (8002, .sym ((i).toNat)), (8003, .one (.v (.int .i64 (x.k ((i).toNat))))), (8004, .b true)] (all6 h4000 h7002 (show i = (((i).toNat : Nat) : Int) by omega) (show (i).toNat < 3 by omega) (seg_get [.v (.int .i64 x.op), .v (.int .i64 x.w), .v (.int .u64 x.n)] aI 3 x.k [] ((i).toNat) (by omega)) h8004) (by kernel_rfl)
def tkid_s (x : Nd) (l : List Nd) : (Nat → Int) × Bool := (tkid_l0 x l ((3 - ((0) : Int)).toNat + 1) (fun _ => 0) 0)
set_option maxRecDepth 100000 in
theorem tkid_ok (x : Nd) (l : List Nd)  : Ok Tryd.prog 37 [.agg (cat [.v (.int .i64 x.op), .v (.int .i64 x.w), .v (.int .u64 x.n)] (cat (arrA aI 3 x.k) [])), .ro 6 l.length ((l).map eNd)] (look []) (.tup [.agg (cat [] (cat (arrA aI 3 ((tkid_s x l).1)) [])), .v (.bool ((tkid_s x l).2))]) (postOf [] []) := by
  unfold tkid_s
  refine ok_head (T := [(1, .ro 6 l.length ((l).map eNd)), (2, .ptr 830 0), (4, .ptr 831 0), (5, .v (.bool false)), (6, .ptr 832 0), (7, .v (.int .i64 (kids_s x.op))), (12, .v (.int .i64 0))]) (H := [(830, .cells (cat [.v (.int .i64 x.op), .v (.int .i64 x.w), .v (.int .u64 x.n)] (cat (arrA aI 3 x.k) [])) 39), (831, .cells (cat [] (cat (arrA aI 3 (fun _ => 0)) [])) 37), (832, .cells (cat [] (cat (arrA aI 3 (fun _ => 0)) [])) 37)]) (todo := headAt Tryd.f37 0) Tryd.func37 rfl rfl mixed 400 [(0, .nm 830), (1, .nm 831), (1000, .nm 832), (2002, .call [] [] (.v (.int .i64 (kids_s x.op))))] (all1 (kids_ok x.op )) (by kernel_rfl) ?_
  exact tkid_lok0 x l _ (fun _ => 0) 0 (by omega) (Nat.lt_succ_self _)

def leaf_s (x : Nd) : Bool := (bif x.op == (0 : Int) then (bif x.w == (1 : Int) then true else (bif x.w == (8 : Int) then true else (x.w == (64 : Int)))) else (bif x.op == (1 : Int) then (x.w == (8 : Int)) else (bif x.op == (2 : Int) then (x.w == (64 : Int)) else (x.w == (0 : Int)))))
set_option maxRecDepth 100000 in
theorem leaf_ok (x : Nd)  : Ok Tryd.prog 61 [.agg (cat [.v (.int .i64 x.op), .v (.int .i64 x.w), .v (.int .u64 x.n)] (cat (arrA aI 3 x.k) []))] (look []) (.v (.bool (leaf_s x))) (postOf [] []) := by
  unfold leaf_s
  cases h2000 : (x.op == (0 : Int))
  · have p2000 := ne_of_beq_false h2000
    cases h4000 : (x.op == (1 : Int))
    · have p4000 := ne_of_beq_false h4000
      cases h6000 : (x.op == (2 : Int))
      · have p6000 := ne_of_beq_false h6000
        exact ok_run Tryd.func61 rfl rfl mixed 400 [(0, .nm 701), (2000, .b false), (4000, .b false), (6000, .b false)] (all3 h2000 h4000 h6000) (by kernel_rfl)
      · have p6000 := eq_of_beq h6000
        exact ok_run Tryd.func61 rfl rfl mixed 400 [(0, .nm 701), (2000, .b false), (4000, .b false), (6000, .b true)] (all3 h2000 h4000 h6000) (by kernel_rfl)
    · have p4000 := eq_of_beq h4000
      exact ok_run Tryd.func61 rfl rfl mixed 400 [(0, .nm 701), (2000, .b false), (4000, .b true)] (all2 h2000 h4000) (by kernel_rfl)
  · have p2000 := eq_of_beq h2000
    cases h3002 : (x.w == (1 : Int))
    · have p3002 := ne_of_beq_false h3002
      cases h3006 : (x.w == (8 : Int))
      · have p3006 := ne_of_beq_false h3006
        exact ok_run Tryd.func61 rfl rfl mixed 400 [(0, .nm 701), (2000, .b true), (3002, .b false), (3006, .b false)] (all3 h2000 h3002 h3006) (by kernel_rfl)
      · have p3006 := eq_of_beq h3006
        exact ok_run Tryd.func61 rfl rfl mixed 400 [(0, .nm 701), (2000, .b true), (3002, .b false), (3006, .b true)] (all3 h2000 h3002 h3006) (by kernel_rfl)
    · have p3002 := eq_of_beq h3002
      exact ok_run Tryd.func61 rfl rfl mixed 400 [(0, .nm 701), (2000, .b true), (3002, .b true)] (all2 h2000 h3002) (by kernel_rfl)

def twid_s (x : Nd) (k : Nat → Int) : Bool := (bif x.op == (5 : Int) then (bif (k 0) != (0 : Int) then (x.w == (k 0)) else false) else (bif x.op == (6 : Int) then (bif x.w == (64 : Int) then (bif (k 0) == (1 : Int) then true else ((k 0) == (8 : Int))) else false) else (bif x.op == (7 : Int) then (bif x.w == (8 : Int) then ((k 0) == (64 : Int)) else false) else (bif x.op == (19 : Int) then (bif x.w == (1 : Int) then (bif (k 0) != (0 : Int) then ((k 0) == (k 1)) else false) else false) else (bif x.op == (20 : Int) then (bif x.w == (1 : Int) then (bif (k 0) != (0 : Int) then ((k 0) == (k 1)) else false) else false) else (bif x.op == (21 : Int) then (bif x.w == (1 : Int) then (bif (k 0) != (0 : Int) then ((k 0) == (k 1)) else false) else false) else (bif x.op == (22 : Int) then (bif (k 0) == (1 : Int) then (bif (k 1) != (0 : Int) then (bif (k 1) == (k 2) then (x.w == (k 1)) else false) else false) else false) else (bif x.op == (23 : Int) then (bif x.w == (8 : Int) then (bif (k 0) == (0 : Int) then ((k 1) == (64 : Int)) else false) else false) else (bif x.op == (24 : Int) then (bif x.w == (0 : Int) then (bif (k 0) == (0 : Int) then (bif (k 1) == (64 : Int) then ((k 2) == (8 : Int)) else false) else false) else false) else (bif (kids_s x.op) == (0 : Int) then (leaf_s x) else (bif (k 0) != (0 : Int) then (bif (k 0) == (k 1) then (x.w == (k 0)) else false) else false)))))))))))
set_option maxRecDepth 100000 in
theorem twid_ok (x : Nd) (k : Nat → Int)  : Ok Tryd.prog 38 [.agg (cat [.v (.int .i64 x.op), .v (.int .i64 x.w), .v (.int .u64 x.n)] (cat (arrA aI 3 x.k) [])), .agg (cat [] (cat (arrA aI 3 k) []))] (look []) (.v (.bool (twid_s x k))) (postOf [] []) := by
  unfold twid_s
  cases h2000 : (x.op == (5 : Int))
  · have p2000 := ne_of_beq_false h2000
    cases h4000 : (x.op == (6 : Int))
    · have p4000 := ne_of_beq_false h4000
      cases h6000 : (x.op == (7 : Int))
      · have p6000 := ne_of_beq_false h6000
        cases h8000 : (x.op == (19 : Int))
        · have p8000 := ne_of_beq_false h8000
          cases h9000 : (x.op == (20 : Int))
          · have p9000 := ne_of_beq_false h9000
            cases h10000 : (x.op == (21 : Int))
            · have p10000 := ne_of_beq_false h10000
              cases h12000 : (x.op == (22 : Int))
              · have p12000 := ne_of_beq_false h12000
                cases h14000 : (x.op == (23 : Int))
                · have p14000 := ne_of_beq_false h14000
                  cases h16000 : (x.op == (24 : Int))
                  · have p16000 := ne_of_beq_false h16000
                    cases h18003 : ((kids_s x.op) == (0 : Int))
                    · have p18003 := ne_of_beq_false h18003
                      cases h20002 : ((k 0) != (0 : Int))
                      · have p20002 := bne_eq_false_iff_eq.1 h20002
                        exact ok_run Tryd.func38 rfl rfl mixed 400 [(0, .nm 701), (1, .nm 702), (2000, .b false), (4000, .b false), (6000, .b false), (8000, .b false), (9000, .b false), (10000, .b false), (12000, .b false), (14000, .b false), (16000, .b false), (18002, .call [] [] (.v (.int .i64 (kids_s x.op)))), (18003, .b false), (20002, .b false)] (.cons h2000 (.cons h4000 (.cons h6000 (.cons h8000 (all8 h9000 h10000 h12000 h14000 h16000 (kids_ok x.op ) h18003 h20002))))) (by kernel_rfl)
                      · have p20002 := bne_iff_ne.1 h20002
                        cases h20008 : ((k 0) == (k 1))
                        · have p20008 := ne_of_beq_false h20008
                          exact ok_run Tryd.func38 rfl rfl mixed 400 [(0, .nm 701), (1, .nm 702), (2000, .b false), (4000, .b false), (6000, .b false), (8000, .b false), (9000, .b false), (10000, .b false), (12000, .b false), (14000, .b false), (16000, .b false), (18002, .call [] [] (.v (.int .i64 (kids_s x.op)))), (18003, .b false), (20002, .b true), (20008, .b false)] (.cons h2000 (.cons h4000 (.cons h6000 (.cons h8000 (.cons h9000 (all8 h10000 h12000 h14000 h16000 (kids_ok x.op ) h18003 h20002 h20008)))))) (by kernel_rfl)
                        · have p20008 := eq_of_beq h20008
                          exact ok_run Tryd.func38 rfl rfl mixed 400 [(0, .nm 701), (1, .nm 702), (2000, .b false), (4000, .b false), (6000, .b false), (8000, .b false), (9000, .b false), (10000, .b false), (12000, .b false), (14000, .b false), (16000, .b false), (18002, .call [] [] (.v (.int .i64 (kids_s x.op)))), (18003, .b false), (20002, .b true), (20008, .b true)] (.cons h2000 (.cons h4000 (.cons h6000 (.cons h8000 (.cons h9000 (all8 h10000 h12000 h14000 h16000 (kids_ok x.op ) h18003 h20002 h20008)))))) (by kernel_rfl)
                    · have p18003 := eq_of_beq h18003
                      exact ok_run Tryd.func38 rfl rfl mixed 400 [(0, .nm 701), (1, .nm 702), (2000, .b false), (4000, .b false), (6000, .b false), (8000, .b false), (9000, .b false), (10000, .b false), (12000, .b false), (14000, .b false), (16000, .b false), (18002, .call [] [] (.v (.int .i64 (kids_s x.op)))), (18003, .b true), (19001, .call [] [] (.v (.bool (leaf_s x))))] (.cons h2000 (.cons h4000 (.cons h6000 (.cons h8000 (all8 h9000 h10000 h12000 h14000 h16000 (kids_ok x.op ) h18003 (leaf_ok x )))))) (by kernel_rfl)
                  · have p16000 := eq_of_beq h16000
                    cases h17002 : (x.w == (0 : Int))
                    · have p17002 := ne_of_beq_false h17002
                      exact ok_run Tryd.func38 rfl rfl mixed 400 [(0, .nm 701), (1, .nm 702), (2000, .b false), (4000, .b false), (6000, .b false), (8000, .b false), (9000, .b false), (10000, .b false), (12000, .b false), (14000, .b false), (16000, .b true), (17002, .b false)] (.cons h2000 (.cons h4000 (all8 h6000 h8000 h9000 h10000 h12000 h14000 h16000 h17002))) (by kernel_rfl)
                    · have p17002 := eq_of_beq h17002
                      cases h17006 : ((k 0) == (0 : Int))
                      · have p17006 := ne_of_beq_false h17006
                        exact ok_run Tryd.func38 rfl rfl mixed 400 [(0, .nm 701), (1, .nm 702), (2000, .b false), (4000, .b false), (6000, .b false), (8000, .b false), (9000, .b false), (10000, .b false), (12000, .b false), (14000, .b false), (16000, .b true), (17002, .b true), (17006, .b false)] (.cons h2000 (.cons h4000 (.cons h6000 (all8 h8000 h9000 h10000 h12000 h14000 h16000 h17002 h17006)))) (by kernel_rfl)
                      · have p17006 := eq_of_beq h17006
                        cases h17011 : ((k 1) == (64 : Int))
                        · have p17011 := ne_of_beq_false h17011
                          exact ok_run Tryd.func38 rfl rfl mixed 400 [(0, .nm 701), (1, .nm 702), (2000, .b false), (4000, .b false), (6000, .b false), (8000, .b false), (9000, .b false), (10000, .b false), (12000, .b false), (14000, .b false), (16000, .b true), (17002, .b true), (17006, .b true), (17011, .b false)] (.cons h2000 (.cons h4000 (.cons h6000 (.cons h8000 (all8 h9000 h10000 h12000 h14000 h16000 h17002 h17006 h17011))))) (by kernel_rfl)
                        · have p17011 := eq_of_beq h17011
                          exact ok_run Tryd.func38 rfl rfl mixed 400 [(0, .nm 701), (1, .nm 702), (2000, .b false), (4000, .b false), (6000, .b false), (8000, .b false), (9000, .b false), (10000, .b false), (12000, .b false), (14000, .b false), (16000, .b true), (17002, .b true), (17006, .b true), (17011, .b true)] (.cons h2000 (.cons h4000 (.cons h6000 (.cons h8000 (all8 h9000 h10000 h12000 h14000 h16000 h17002 h17006 h17011))))) (by kernel_rfl)
                · have p14000 := eq_of_beq h14000
                  cases h15002 : (x.w == (8 : Int))
                  · have p15002 := ne_of_beq_false h15002
                    exact ok_run Tryd.func38 rfl rfl mixed 400 [(0, .nm 701), (1, .nm 702), (2000, .b false), (4000, .b false), (6000, .b false), (8000, .b false), (9000, .b false), (10000, .b false), (12000, .b false), (14000, .b true), (15002, .b false)] (.cons h2000 (all8 h4000 h6000 h8000 h9000 h10000 h12000 h14000 h15002)) (by kernel_rfl)
                  · have p15002 := eq_of_beq h15002
                    cases h15006 : ((k 0) == (0 : Int))
                    · have p15006 := ne_of_beq_false h15006
                      exact ok_run Tryd.func38 rfl rfl mixed 400 [(0, .nm 701), (1, .nm 702), (2000, .b false), (4000, .b false), (6000, .b false), (8000, .b false), (9000, .b false), (10000, .b false), (12000, .b false), (14000, .b true), (15002, .b true), (15006, .b false)] (.cons h2000 (.cons h4000 (all8 h6000 h8000 h9000 h10000 h12000 h14000 h15002 h15006))) (by kernel_rfl)
                    · have p15006 := eq_of_beq h15006
                      exact ok_run Tryd.func38 rfl rfl mixed 400 [(0, .nm 701), (1, .nm 702), (2000, .b false), (4000, .b false), (6000, .b false), (8000, .b false), (9000, .b false), (10000, .b false), (12000, .b false), (14000, .b true), (15002, .b true), (15006, .b true)] (.cons h2000 (.cons h4000 (all8 h6000 h8000 h9000 h10000 h12000 h14000 h15002 h15006))) (by kernel_rfl)
              · have p12000 := eq_of_beq h12000
                cases h13002 : ((k 0) == (1 : Int))
                · have p13002 := ne_of_beq_false h13002
                  exact ok_run Tryd.func38 rfl rfl mixed 400 [(0, .nm 701), (1, .nm 702), (2000, .b false), (4000, .b false), (6000, .b false), (8000, .b false), (9000, .b false), (10000, .b false), (12000, .b true), (13002, .b false)] (all8 h2000 h4000 h6000 h8000 h9000 h10000 h12000 h13002) (by kernel_rfl)
                · have p13002 := eq_of_beq h13002
                  cases h13006 : ((k 1) != (0 : Int))
                  · have p13006 := bne_eq_false_iff_eq.1 h13006
                    exact ok_run Tryd.func38 rfl rfl mixed 400 [(0, .nm 701), (1, .nm 702), (2000, .b false), (4000, .b false), (6000, .b false), (8000, .b false), (9000, .b false), (10000, .b false), (12000, .b true), (13002, .b true), (13006, .b false)] (.cons h2000 (all8 h4000 h6000 h8000 h9000 h10000 h12000 h13002 h13006)) (by kernel_rfl)
                  · have p13006 := bne_iff_ne.1 h13006
                    cases h13013 : ((k 1) == (k 2))
                    · have p13013 := ne_of_beq_false h13013
                      exact ok_run Tryd.func38 rfl rfl mixed 400 [(0, .nm 701), (1, .nm 702), (2000, .b false), (4000, .b false), (6000, .b false), (8000, .b false), (9000, .b false), (10000, .b false), (12000, .b true), (13002, .b true), (13006, .b true), (13013, .b false)] (.cons h2000 (.cons h4000 (all8 h6000 h8000 h9000 h10000 h12000 h13002 h13006 h13013))) (by kernel_rfl)
                    · have p13013 := eq_of_beq h13013
                      exact ok_run Tryd.func38 rfl rfl mixed 400 [(0, .nm 701), (1, .nm 702), (2000, .b false), (4000, .b false), (6000, .b false), (8000, .b false), (9000, .b false), (10000, .b false), (12000, .b true), (13002, .b true), (13006, .b true), (13013, .b true)] (.cons h2000 (.cons h4000 (all8 h6000 h8000 h9000 h10000 h12000 h13002 h13006 h13013))) (by kernel_rfl)
            · have p10000 := eq_of_beq h10000
              cases h11002 : (x.w == (1 : Int))
              · have p11002 := ne_of_beq_false h11002
                exact ok_run Tryd.func38 rfl rfl mixed 400 [(0, .nm 701), (1, .nm 702), (2000, .b false), (4000, .b false), (6000, .b false), (8000, .b false), (9000, .b false), (10000, .b true), (11002, .b false)] (all7 h2000 h4000 h6000 h8000 h9000 h10000 h11002) (by kernel_rfl)
              · have p11002 := eq_of_beq h11002
                cases h11006 : ((k 0) != (0 : Int))
                · have p11006 := bne_eq_false_iff_eq.1 h11006
                  exact ok_run Tryd.func38 rfl rfl mixed 400 [(0, .nm 701), (1, .nm 702), (2000, .b false), (4000, .b false), (6000, .b false), (8000, .b false), (9000, .b false), (10000, .b true), (11002, .b true), (11006, .b false)] (all8 h2000 h4000 h6000 h8000 h9000 h10000 h11002 h11006) (by kernel_rfl)
                · have p11006 := bne_iff_ne.1 h11006
                  exact ok_run Tryd.func38 rfl rfl mixed 400 [(0, .nm 701), (1, .nm 702), (2000, .b false), (4000, .b false), (6000, .b false), (8000, .b false), (9000, .b false), (10000, .b true), (11002, .b true), (11006, .b true)] (all8 h2000 h4000 h6000 h8000 h9000 h10000 h11002 h11006) (by kernel_rfl)
          · have p9000 := eq_of_beq h9000
            cases h11002 : (x.w == (1 : Int))
            · have p11002 := ne_of_beq_false h11002
              exact ok_run Tryd.func38 rfl rfl mixed 400 [(0, .nm 701), (1, .nm 702), (2000, .b false), (4000, .b false), (6000, .b false), (8000, .b false), (9000, .b true), (11002, .b false)] (all6 h2000 h4000 h6000 h8000 h9000 h11002) (by kernel_rfl)
            · have p11002 := eq_of_beq h11002
              cases h11006 : ((k 0) != (0 : Int))
              · have p11006 := bne_eq_false_iff_eq.1 h11006
                exact ok_run Tryd.func38 rfl rfl mixed 400 [(0, .nm 701), (1, .nm 702), (2000, .b false), (4000, .b false), (6000, .b false), (8000, .b false), (9000, .b true), (11002, .b true), (11006, .b false)] (all7 h2000 h4000 h6000 h8000 h9000 h11002 h11006) (by kernel_rfl)
              · have p11006 := bne_iff_ne.1 h11006
                exact ok_run Tryd.func38 rfl rfl mixed 400 [(0, .nm 701), (1, .nm 702), (2000, .b false), (4000, .b false), (6000, .b false), (8000, .b false), (9000, .b true), (11002, .b true), (11006, .b true)] (all7 h2000 h4000 h6000 h8000 h9000 h11002 h11006) (by kernel_rfl)
        · have p8000 := eq_of_beq h8000
          cases h11002 : (x.w == (1 : Int))
          · have p11002 := ne_of_beq_false h11002
            exact ok_run Tryd.func38 rfl rfl mixed 400 [(0, .nm 701), (1, .nm 702), (2000, .b false), (4000, .b false), (6000, .b false), (8000, .b true), (11002, .b false)] (all5 h2000 h4000 h6000 h8000 h11002) (by kernel_rfl)
          · have p11002 := eq_of_beq h11002
            cases h11006 : ((k 0) != (0 : Int))
            · have p11006 := bne_eq_false_iff_eq.1 h11006
              exact ok_run Tryd.func38 rfl rfl mixed 400 [(0, .nm 701), (1, .nm 702), (2000, .b false), (4000, .b false), (6000, .b false), (8000, .b true), (11002, .b true), (11006, .b false)] (all6 h2000 h4000 h6000 h8000 h11002 h11006) (by kernel_rfl)
            · have p11006 := bne_iff_ne.1 h11006
              exact ok_run Tryd.func38 rfl rfl mixed 400 [(0, .nm 701), (1, .nm 702), (2000, .b false), (4000, .b false), (6000, .b false), (8000, .b true), (11002, .b true), (11006, .b true)] (all6 h2000 h4000 h6000 h8000 h11002 h11006) (by kernel_rfl)
      · have p6000 := eq_of_beq h6000
        cases h7002 : (x.w == (8 : Int))
        · have p7002 := ne_of_beq_false h7002
          exact ok_run Tryd.func38 rfl rfl mixed 400 [(0, .nm 701), (1, .nm 702), (2000, .b false), (4000, .b false), (6000, .b true), (7002, .b false)] (all4 h2000 h4000 h6000 h7002) (by kernel_rfl)
        · have p7002 := eq_of_beq h7002
          exact ok_run Tryd.func38 rfl rfl mixed 400 [(0, .nm 701), (1, .nm 702), (2000, .b false), (4000, .b false), (6000, .b true), (7002, .b true)] (all4 h2000 h4000 h6000 h7002) (by kernel_rfl)
    · have p4000 := eq_of_beq h4000
      cases h5002 : (x.w == (64 : Int))
      · have p5002 := ne_of_beq_false h5002
        exact ok_run Tryd.func38 rfl rfl mixed 400 [(0, .nm 701), (1, .nm 702), (2000, .b false), (4000, .b true), (5002, .b false)] (all3 h2000 h4000 h5002) (by kernel_rfl)
      · have p5002 := eq_of_beq h5002
        cases h5006 : ((k 0) == (1 : Int))
        · have p5006 := ne_of_beq_false h5006
          exact ok_run Tryd.func38 rfl rfl mixed 400 [(0, .nm 701), (1, .nm 702), (2000, .b false), (4000, .b true), (5002, .b true), (5006, .b false)] (all4 h2000 h4000 h5002 h5006) (by kernel_rfl)
        · have p5006 := eq_of_beq h5006
          exact ok_run Tryd.func38 rfl rfl mixed 400 [(0, .nm 701), (1, .nm 702), (2000, .b false), (4000, .b true), (5002, .b true), (5006, .b true)] (all4 h2000 h4000 h5002 h5006) (by kernel_rfl)
  · have p2000 := eq_of_beq h2000
    cases h3002 : ((k 0) != (0 : Int))
    · have p3002 := bne_eq_false_iff_eq.1 h3002
      exact ok_run Tryd.func38 rfl rfl mixed 400 [(0, .nm 701), (1, .nm 702), (2000, .b true), (3002, .b false)] (all2 h2000 h3002) (by kernel_rfl)
    · have p3002 := bne_iff_ne.1 h3002
      exact ok_run Tryd.func38 rfl rfl mixed 400 [(0, .nm 701), (1, .nm 702), (2000, .b true), (3002, .b true)] (all2 h2000 h3002) (by kernel_rfl)

theorem twid_t {x : Nd} {k : Nat → Int} (h : twid_s x k = true) : x.op = 0 → 0 ≤ x.w := by
  intro h0
  obtain ⟨op, w, n, q⟩ := x
  obtain rfl : op = 0 := h0
  have h : leaf_s ⟨0, w, n, q⟩ = true := h
  show 0 ≤ w
  by_cases c1 : w = 1
  · omega
  by_cases c2 : w = 8
  · omega
  have h : (w == 64) = true := by
    have e1 : (w == 1) = false := by simpa using c1
    have e2 : (w == 8) = false := by simpa using c2
    unfold leaf_s at h
    simp only [e1, e2] at h
    exact h
  have := eq_of_beq h
  omega

def tnum_s (x : Nd) : Bool := (bif x.op == (0 : Int) then (bif x.w == (64 : Int) then true else ((x.n.fdiv (2 ^ min ((x.w).toNat) 64)) == (0 : Int))) else (bif x.op == (1 : Int) then (decide (x.n < (16 : Int))) else (bif x.op == (2 : Int) then (decide (x.n < (8 : Int))) else (x.n == (0 : Int)))))
set_option maxRecDepth 100000 in
theorem tnum_ok (x : Nd) (h0 : x.op = 0 → 0 ≤ x.w) : Ok Tryd.prog 39 [.agg (cat [.v (.int .i64 x.op), .v (.int .i64 x.w), .v (.int .u64 x.n)] (cat (arrA aI 3 x.k) []))] (look []) (.v (.bool (tnum_s x))) (postOf [] []) := by
  unfold tnum_s
  cases h2000 : (x.op == (0 : Int))
  · have p2000 := ne_of_beq_false h2000
    cases h4000 : (x.op == (1 : Int))
    · have p4000 := ne_of_beq_false h4000
      cases h6000 : (x.op == (2 : Int))
      · have p6000 := ne_of_beq_false h6000
        exact ok_run Tryd.func39 rfl rfl mixed 400 [(0, .nm 701), (2000, .b false), (4000, .b false), (6000, .b false)] (all3 h2000 h4000 h6000) (by kernel_rfl)
      · have p6000 := eq_of_beq h6000
        exact ok_run Tryd.func39 rfl rfl mixed 400 [(0, .nm 701), (2000, .b false), (4000, .b false), (6000, .b true)] (all3 h2000 h4000 h6000) (by kernel_rfl)
    · have p4000 := eq_of_beq h4000
      exact ok_run Tryd.func39 rfl rfl mixed 400 [(0, .nm 701), (2000, .b false), (4000, .b true)] (all2 h2000 h4000) (by kernel_rfl)
  · have p2000 := eq_of_beq h2000
    cases h3002 : (x.w == (64 : Int))
    · have p3002 := ne_of_beq_false h3002
      exact ok_run Tryd.func39 rfl rfl mixed 400 [(0, .nm 701), (2000, .b true), (3002, .b false), (3008, .nat 0)] (all3 h2000 h3002 (show (0 : Int) ≤ x.w by omega)) (by kernel_rfl)
    · have p3002 := eq_of_beq h3002
      exact ok_run Tryd.func39 rfl rfl mixed 400 [(0, .nm 701), (2000, .b true), (3002, .b true)] (all2 h2000 h3002) (by kernel_rfl)

def trig_s (x : Nd) (l : List Nd) : Int := (bif decide (x.op < (0 : Int)) then (4 : Int) else (bif decide (x.op > (24 : Int)) then (4 : Int) else (bif !((tkid_s x l).2) then (9 : Int) else (bif !(twid_s x ((tkid_s x l).1)) then (8 : Int) else (bif !(tnum_s x) then (3 : Int) else (0 : Int))))))
set_option maxRecDepth 100000 in
theorem trig_ok (x : Nd) (l : List Nd)  : Ok Tryd.prog 17 [.agg (cat [.v (.int .i64 x.op), .v (.int .i64 x.w), .v (.int .u64 x.n)] (cat (arrA aI 3 x.k) [])), .ro 6 l.length ((l).map eNd)] (look []) (.v (.int .i64 (trig_s x l))) (postOf [] []) := by
  unfold trig_s
  cases h1002 : (decide (x.op < (0 : Int)))
  · have p1002 := of_decide_eq_false h1002
    cases h1006 : (decide (x.op > (24 : Int)))
    · have p1006 := of_decide_eq_false h1006
      cases h4001 : (!((tkid_s x l).2))
      · have p4001 := notF h4001
        cases h6003 : (!(twid_s x ((tkid_s x l).1)))
        · have p6003 := twid_t (notF h6003)
          cases h8002 : (!(tnum_s x))
          · have p8002 := notF h8002
            exact ok_run Tryd.func17 rfl rfl mixed 400 [(0, .nm 701), (1002, .b false), (1006, .b false), (3002, .call [] [] (.tup [.agg (cat [] (cat (arrA aI 3 ((tkid_s x l).1)) [])), .v (.bool ((tkid_s x l).2))])), (3006, .nm 702), (4001, .b false), (6002, .call [] [] (.v (.bool (twid_s x ((tkid_s x l).1))))), (6003, .b false), (8001, .call [] [] (.v (.bool (tnum_s x)))), (8002, .b false)] (all8 h1002 h1006 (tkid_ok x l ) h4001 (twid_ok x ((tkid_s x l).1) ) h6003 (tnum_ok x (by first | assumption | omega)) h8002) (by kernel_rfl)
          · have p8002 := notT h8002
            exact ok_run Tryd.func17 rfl rfl mixed 400 [(0, .nm 701), (1002, .b false), (1006, .b false), (3002, .call [] [] (.tup [.agg (cat [] (cat (arrA aI 3 ((tkid_s x l).1)) [])), .v (.bool ((tkid_s x l).2))])), (3006, .nm 702), (4001, .b false), (6002, .call [] [] (.v (.bool (twid_s x ((tkid_s x l).1))))), (6003, .b false), (8001, .call [] [] (.v (.bool (tnum_s x)))), (8002, .b true)] (all8 h1002 h1006 (tkid_ok x l ) h4001 (twid_ok x ((tkid_s x l).1) ) h6003 (tnum_ok x (by first | assumption | omega)) h8002) (by kernel_rfl)
        · have p6003 := notT h6003
          exact ok_run Tryd.func17 rfl rfl mixed 400 [(0, .nm 701), (1002, .b false), (1006, .b false), (3002, .call [] [] (.tup [.agg (cat [] (cat (arrA aI 3 ((tkid_s x l).1)) [])), .v (.bool ((tkid_s x l).2))])), (3006, .nm 702), (4001, .b false), (6002, .call [] [] (.v (.bool (twid_s x ((tkid_s x l).1))))), (6003, .b true)] (all6 h1002 h1006 (tkid_ok x l ) h4001 (twid_ok x ((tkid_s x l).1) ) h6003) (by kernel_rfl)
      · have p4001 := notT h4001
        exact ok_run Tryd.func17 rfl rfl mixed 400 [(0, .nm 701), (1002, .b false), (1006, .b false), (3002, .call [] [] (.tup [.agg (cat [] (cat (arrA aI 3 ((tkid_s x l).1)) [])), .v (.bool ((tkid_s x l).2))])), (3006, .nm 702), (4001, .b true)] (all4 h1002 h1006 (tkid_ok x l ) h4001) (by kernel_rfl)
    · have p1006 := of_decide_eq_true h1006
      exact ok_run Tryd.func17 rfl rfl mixed 400 [(0, .nm 701), (1002, .b false), (1006, .b true)] (all2 h1002 h1006) (by kernel_rfl)
  · have p1002 := of_decide_eq_true h1002
    exact ok_run Tryd.func17 rfl rfl mixed 400 [(0, .nm 701), (1002, .b true)] (all1 h1002) (by kernel_rfl)

def tchk_l0 (l : List Nd) : Nat → Int → Int × Int
  | 0, _ => default
  | m + 1, i => (bif decide (i < (l.length : Int)) then (bif i == (65536 : Int) then ((10 : Int), i) else (bif (trig_s (l.getD ((i).toNat) default) ((l.take ((i).toNat)).drop 0)) != (0 : Int) then ((trig_s (l.getD ((i).toNat) default) ((l.take ((i).toNat)).drop 0)), i) else (tchk_l0 l m (i + 1)))) else ((0 : Int), (0 : Int)))
set_option maxRecDepth 100000 in
theorem tchk_lok0 (l : List Nd) (hl : l.length < 2 ^ 40) : ∀ (m : Nat) (i : Int), (0 ≤ i) → (i ≤ l.length) → l.length - (i : Int).toNat < m → Good Tryd.prog 12 Tryd.f12.ntmps (look []) false (.tup [.v (.int .i64 ((tchk_l0 l m i).1)), .v (.int .i64 ((tchk_l0 l m i).2))]) (postOf [] []) (headAt Tryd.f12 0) [(0, .ro 6 l.length ((l).map eNd)), (2, .v (.int .i64 0)), (3, .v (.int .i64 0)), (10, .ro 6 l.length ((l).map eNd)), (11, .v (.int .i64 (l.length : Int))), (12, .v (.int .i64 i))] [] := by
  intro m
  induction m with
  | zero => intro i i0 i1 hm; exact absurd hm (Nat.not_lt_zero _)
  | succ m ih =>
    intro i i0 i1 hm
    rw [tchk_l0]
    cases h4000 : (decide (i < (l.length : Int)))
    · have p4000 := of_decide_eq_false h4000
      exact good_run Tryd.func12 mixed 400 [(4000, .b false)] (all1 h4000) (by kernel_rfl)
    · have p4000 := of_decide_eq_true h4000
      cases h6001 : (i == (65536 : Int))
      · have p6001 := ne_of_beq_false h6001
        cases h9001 : ((trig_s (l.getD ((i).toNat) default) ((l.take ((i).toNat)).drop 0)) != (0 : Int))
        · have p9001 := bne_eq_false_iff_eq.1 h9001
          refine good_head (T := [(0, .ro 6 l.length ((l).map eNd)), (2, .v (.int .i64 0)), (3, .v (.int .i64 0)), (10, .ro 6 l.length ((l).map eNd)), (11, .v (.int .i64 (l.length : Int))), (12, .v (.int .i64 (i + 1)))]) (H := []) (todo' := headAt Tryd.f12 0) Tryd.func12 mixed 400 [(4000, .b true), (5001, .el (eNd (l.getD ((i).toNat) default))), (5003, .nm 751), (6001, .b false), (8003, .as_ (.ro 6 (((l.take ((i).toNat)).drop 0).length) (((l.take ((i).toNat)).drop 0).map eNd))), (8004, .call [] [] (.v (.int .i64 (trig_s (l.getD ((i).toNat) default) ((l.take ((i).toNat)).drop 0))))), (9001, .b false), (11000, .as_ (.v (.int .i64 (i + 1))))] (.cons h4000 (.cons (show (0 : Int) ≤ i by omega) (.cons (getg (l := l) (n := (i).toNat) eNd default (by omega)) (all8 h6001 (show (0 : Int) ≤ 0 by decide) (show (0 : Int) ≤ i by omega) (show (i : Int) ≤ (l.length : Int) by omega) (slE eNd 6 l 0 ((i).toNat) (by omega)) (trig_ok (l.getD ((i).toNat) default) ((l.take ((i).toNat)).drop 0) ) h9001 (wr64 (x := i + 1) (by omega)))))) (by kernel_rfl) ?_
          exact ih (i + 1) (by omega) (by omega) (by omega)
        · have p9001 := bne_iff_ne.1 h9001
          exact good_run Tryd.func12 mixed 400 [(4000, .b true), (5001, .el (eNd (l.getD ((i).toNat) default))), (5003, .nm 751), (6001, .b false), (8003, .as_ (.ro 6 (((l.take ((i).toNat)).drop 0).length) (((l.take ((i).toNat)).drop 0).map eNd))), (8004, .call [] [] (.v (.int .i64 (trig_s (l.getD ((i).toNat) default) ((l.take ((i).toNat)).drop 0))))), (9001, .b true)] (.cons h4000 (.cons (show (0 : Int) ≤ i by omega) (all8 (getg (l := l) (n := (i).toNat) eNd default (by omega)) h6001 (show (0 : Int) ≤ 0 by decide) (show (0 : Int) ≤ i by omega) (show (i : Int) ≤ (l.length : Int) by omega) (slE eNd 6 l 0 ((i).toNat) (by omega)) (trig_ok (l.getD ((i).toNat) default) ((l.take ((i).toNat)).drop 0) ) h9001))) (by kernel_rfl)
      · have p6001 := eq_of_beq h6001
        exact good_run Tryd.func12 mixed 400 [(4000, .b true), (5001, .el (eNd (l.getD ((i).toNat) default))), (5003, .nm 751), (6001, .b true)] (all4 h4000 (show (0 : Int) ≤ i by omega) (getg (l := l) (n := (i).toNat) eNd default (by omega)) h6001) (by kernel_rfl)
def tchk_s (l : List Nd) : Int × Int := (bif (l.length : Int) == (0 : Int) then ((11 : Int), (0 : Int)) else (tchk_l0 l (l.length - ((0) : Int).toNat + 1) 0))
set_option maxRecDepth 100000 in
theorem tchk_ok (l : List Nd) (hl : l.length < 2 ^ 40) : Ok Tryd.prog 12 [.ro 6 l.length ((l).map eNd)] (look []) (.tup [.v (.int .i64 ((tchk_s l).1)), .v (.int .i64 ((tchk_s l).2))]) (postOf [] []) := by
  unfold tchk_s
  cases h1002 : ((l.length : Int) == (0 : Int))
  · have p1002 := ne_of_beq_false h1002
    refine ok_head (T := [(0, .ro 6 l.length ((l).map eNd)), (2, .v (.int .i64 0)), (3, .v (.int .i64 0)), (10, .ro 6 l.length ((l).map eNd)), (11, .v (.int .i64 (l.length : Int))), (12, .v (.int .i64 0))]) (H := []) (todo := headAt Tryd.f12 0) Tryd.func12 rfl rfl mixed 400 [(1002, .b false)] (all1 h1002) (by kernel_rfl) ?_
    exact tchk_lok0 l hl _ 0 (by omega) (by omega) (Nat.lt_succ_self _)
  · have p1002 := eq_of_beq h1002
    exact ok_run Tryd.func12 rfl rfl mixed 400 [(1002, .b true)] (all1 h1002) (by kernel_rfl)

def rkds_s (op : Int) : Int := (bif decide (op ≥ (5 : Int)) then (bif decide (op ≤ (7 : Int)) then (1 : Int) else (bif decide (op ≥ (8 : Int)) then (bif decide (op ≤ (21 : Int)) then (2 : Int) else (bif op == (23 : Int) then (2 : Int) else (bif op == (22 : Int) then (3 : Int) else (bif op == (24 : Int) then (3 : Int) else (0 : Int))))) else (bif op == (23 : Int) then (2 : Int) else (bif op == (22 : Int) then (3 : Int) else (bif op == (24 : Int) then (3 : Int) else (0 : Int)))))) else (bif decide (op ≥ (8 : Int)) then (bif decide (op ≤ (21 : Int)) then (2 : Int) else (bif op == (23 : Int) then (2 : Int) else (bif op == (22 : Int) then (3 : Int) else (bif op == (24 : Int) then (3 : Int) else (0 : Int))))) else (bif op == (23 : Int) then (2 : Int) else (bif op == (22 : Int) then (3 : Int) else (bif op == (24 : Int) then (3 : Int) else (0 : Int))))))
set_option maxRecDepth 100000 in
theorem rkds_ok (op : Int)  : Ok Tryd.prog 34 [.v (.int .i64 op)] (look []) (.v (.int .i64 (rkds_s op))) (postOf [] []) := by
  unfold rkds_s
  cases h1001 : (decide (op ≥ (5 : Int)))
  · have p1001 := of_decide_eq_false h1001
    cases h3001 : (decide (op ≥ (8 : Int)))
    · have p3001 := of_decide_eq_false h3001
      cases h3008 : (op == (23 : Int))
      · have p3008 := ne_of_beq_false h3008
        cases h5001 : (op == (22 : Int))
        · have p5001 := ne_of_beq_false h5001
          cases h5004 : (op == (24 : Int))
          · have p5004 := ne_of_beq_false h5004
            exact ok_run Tryd.func34 rfl rfl mixed 400 [(1001, .b false), (3001, .b false), (3008, .b false), (5001, .b false), (5004, .b false)] (all5 h1001 h3001 h3008 h5001 h5004) (by kernel_rfl)
          · have p5004 := eq_of_beq h5004
            exact ok_run Tryd.func34 rfl rfl mixed 400 [(1001, .b false), (3001, .b false), (3008, .b false), (5001, .b false), (5004, .b true)] (all5 h1001 h3001 h3008 h5001 h5004) (by kernel_rfl)
        · have p5001 := eq_of_beq h5001
          exact ok_run Tryd.func34 rfl rfl mixed 400 [(1001, .b false), (3001, .b false), (3008, .b false), (5001, .b true)] (all4 h1001 h3001 h3008 h5001) (by kernel_rfl)
      · have p3008 := eq_of_beq h3008
        exact ok_run Tryd.func34 rfl rfl mixed 400 [(1001, .b false), (3001, .b false), (3008, .b true)] (all3 h1001 h3001 h3008) (by kernel_rfl)
    · have p3001 := of_decide_eq_true h3001
      cases h3004 : (decide (op ≤ (21 : Int)))
      · have p3004 := of_decide_eq_false h3004
        cases h3008 : (op == (23 : Int))
        · have p3008 := ne_of_beq_false h3008
          cases h5001 : (op == (22 : Int))
          · have p5001 := ne_of_beq_false h5001
            cases h5004 : (op == (24 : Int))
            · have p5004 := ne_of_beq_false h5004
              exact ok_run Tryd.func34 rfl rfl mixed 400 [(1001, .b false), (3001, .b true), (3004, .b false), (3008, .b false), (5001, .b false), (5004, .b false)] (all6 h1001 h3001 h3004 h3008 h5001 h5004) (by kernel_rfl)
            · have p5004 := eq_of_beq h5004
              exact ok_run Tryd.func34 rfl rfl mixed 400 [(1001, .b false), (3001, .b true), (3004, .b false), (3008, .b false), (5001, .b false), (5004, .b true)] (all6 h1001 h3001 h3004 h3008 h5001 h5004) (by kernel_rfl)
          · have p5001 := eq_of_beq h5001
            exact ok_run Tryd.func34 rfl rfl mixed 400 [(1001, .b false), (3001, .b true), (3004, .b false), (3008, .b false), (5001, .b true)] (all5 h1001 h3001 h3004 h3008 h5001) (by kernel_rfl)
        · have p3008 := eq_of_beq h3008
          exact ok_run Tryd.func34 rfl rfl mixed 400 [(1001, .b false), (3001, .b true), (3004, .b false), (3008, .b true)] (all4 h1001 h3001 h3004 h3008) (by kernel_rfl)
      · have p3004 := of_decide_eq_true h3004
        exact ok_run Tryd.func34 rfl rfl mixed 400 [(1001, .b false), (3001, .b true), (3004, .b true)] (all3 h1001 h3001 h3004) (by kernel_rfl)
  · have p1001 := of_decide_eq_true h1001
    cases h1004 : (decide (op ≤ (7 : Int)))
    · have p1004 := of_decide_eq_false h1004
      cases h3001 : (decide (op ≥ (8 : Int)))
      · have p3001 := of_decide_eq_false h3001
        cases h3008 : (op == (23 : Int))
        · have p3008 := ne_of_beq_false h3008
          cases h5001 : (op == (22 : Int))
          · have p5001 := ne_of_beq_false h5001
            cases h5004 : (op == (24 : Int))
            · have p5004 := ne_of_beq_false h5004
              exact ok_run Tryd.func34 rfl rfl mixed 400 [(1001, .b true), (1004, .b false), (3001, .b false), (3008, .b false), (5001, .b false), (5004, .b false)] (all6 h1001 h1004 h3001 h3008 h5001 h5004) (by kernel_rfl)
            · have p5004 := eq_of_beq h5004
              exact ok_run Tryd.func34 rfl rfl mixed 400 [(1001, .b true), (1004, .b false), (3001, .b false), (3008, .b false), (5001, .b false), (5004, .b true)] (all6 h1001 h1004 h3001 h3008 h5001 h5004) (by kernel_rfl)
          · have p5001 := eq_of_beq h5001
            exact ok_run Tryd.func34 rfl rfl mixed 400 [(1001, .b true), (1004, .b false), (3001, .b false), (3008, .b false), (5001, .b true)] (all5 h1001 h1004 h3001 h3008 h5001) (by kernel_rfl)
        · have p3008 := eq_of_beq h3008
          exact ok_run Tryd.func34 rfl rfl mixed 400 [(1001, .b true), (1004, .b false), (3001, .b false), (3008, .b true)] (all4 h1001 h1004 h3001 h3008) (by kernel_rfl)
      · have p3001 := of_decide_eq_true h3001
        cases h3004 : (decide (op ≤ (21 : Int)))
        · have p3004 := of_decide_eq_false h3004
          cases h3008 : (op == (23 : Int))
          · have p3008 := ne_of_beq_false h3008
            cases h5001 : (op == (22 : Int))
            · have p5001 := ne_of_beq_false h5001
              cases h5004 : (op == (24 : Int))
              · have p5004 := ne_of_beq_false h5004
                exact ok_run Tryd.func34 rfl rfl mixed 400 [(1001, .b true), (1004, .b false), (3001, .b true), (3004, .b false), (3008, .b false), (5001, .b false), (5004, .b false)] (all7 h1001 h1004 h3001 h3004 h3008 h5001 h5004) (by kernel_rfl)
              · have p5004 := eq_of_beq h5004
                exact ok_run Tryd.func34 rfl rfl mixed 400 [(1001, .b true), (1004, .b false), (3001, .b true), (3004, .b false), (3008, .b false), (5001, .b false), (5004, .b true)] (all7 h1001 h1004 h3001 h3004 h3008 h5001 h5004) (by kernel_rfl)
            · have p5001 := eq_of_beq h5001
              exact ok_run Tryd.func34 rfl rfl mixed 400 [(1001, .b true), (1004, .b false), (3001, .b true), (3004, .b false), (3008, .b false), (5001, .b true)] (all6 h1001 h1004 h3001 h3004 h3008 h5001) (by kernel_rfl)
          · have p3008 := eq_of_beq h3008
            exact ok_run Tryd.func34 rfl rfl mixed 400 [(1001, .b true), (1004, .b false), (3001, .b true), (3004, .b false), (3008, .b true)] (all5 h1001 h1004 h3001 h3004 h3008) (by kernel_rfl)
        · have p3004 := of_decide_eq_true h3004
          exact ok_run Tryd.func34 rfl rfl mixed 400 [(1001, .b true), (1004, .b false), (3001, .b true), (3004, .b true)] (all4 h1001 h1004 h3001 h3004) (by kernel_rfl)
    · have p1004 := of_decide_eq_true h1004
      exact ok_run Tryd.func34 rfl rfl mixed 400 [(1001, .b true), (1004, .b true)] (all2 h1001 h1004) (by kernel_rfl)

def rwd_s (x : Nd) (a b c : Int) : Int := (bif x.op == (0 : Int) then (bif x.w == (1 : Int) then x.w else (bif x.w == (8 : Int) then x.w else (bif x.w == (64 : Int) then x.w else (-1 : Int)))) else (bif x.op == (1 : Int) then (8 : Int) else (bif x.op == (2 : Int) then (64 : Int) else (bif x.op == (3 : Int) then (0 : Int) else (bif x.op == (4 : Int) then (0 : Int) else (bif x.op == (5 : Int) then (bif a != (0 : Int) then a else (-1 : Int)) else (bif x.op == (6 : Int) then (bif a == (1 : Int) then (64 : Int) else (bif a == (8 : Int) then (64 : Int) else (-1 : Int))) else (bif x.op == (7 : Int) then (bif a == (64 : Int) then (8 : Int) else (-1 : Int)) else (bif x.op == (19 : Int) then (bif a != (0 : Int) then (bif a == b then (1 : Int) else (-1 : Int)) else (-1 : Int)) else (bif x.op == (20 : Int) then (bif a != (0 : Int) then (bif a == b then (1 : Int) else (-1 : Int)) else (-1 : Int)) else (bif x.op == (21 : Int) then (bif a != (0 : Int) then (bif a == b then (1 : Int) else (-1 : Int)) else (-1 : Int)) else (bif x.op == (22 : Int) then (bif a == (1 : Int) then (bif b != (0 : Int) then (bif b == c then b else (-1 : Int)) else (-1 : Int)) else (-1 : Int)) else (bif x.op == (23 : Int) then (bif a == (0 : Int) then (bif b == (64 : Int) then (8 : Int) else (-1 : Int)) else (-1 : Int)) else (bif x.op == (24 : Int) then (bif a == (0 : Int) then (bif b == (64 : Int) then (bif c == (8 : Int) then (0 : Int) else (-1 : Int)) else (-1 : Int)) else (-1 : Int)) else (bif a != (0 : Int) then (bif a == b then a else (-1 : Int)) else (-1 : Int))))))))))))))))
set_option maxRecDepth 100000 in
theorem rwd_ok (x : Nd) (a b c : Int)  : Ok Tryd.prog 35 [.agg (cat [.v (.int .i64 x.op), .v (.int .i64 x.w), .v (.int .u64 x.n)] (cat (arrA aI 3 x.k) [])), .v (.int .i64 a), .v (.int .i64 b), .v (.int .i64 c)] (look []) (.v (.int .i64 (rwd_s x a b c))) (postOf [] []) := by
  unfold rwd_s
  cases h4000 : (x.op == (0 : Int))
  · have p4000 := ne_of_beq_false h4000
    cases h8000 : (x.op == (1 : Int))
    · have p8000 := ne_of_beq_false h8000
      cases h10000 : (x.op == (2 : Int))
      · have p10000 := ne_of_beq_false h10000
        cases h12000 : (x.op == (3 : Int))
        · have p12000 := ne_of_beq_false h12000
          cases h13000 : (x.op == (4 : Int))
          · have p13000 := ne_of_beq_false h13000
            cases h15000 : (x.op == (5 : Int))
            · have p15000 := ne_of_beq_false h15000
              cases h18000 : (x.op == (6 : Int))
              · have p18000 := ne_of_beq_false h18000
                cases h21000 : (x.op == (7 : Int))
                · have p21000 := ne_of_beq_false h21000
                  cases h24000 : (x.op == (19 : Int))
                  · have p24000 := ne_of_beq_false h24000
                    cases h25000 : (x.op == (20 : Int))
                    · have p25000 := ne_of_beq_false h25000
                      cases h26000 : (x.op == (21 : Int))
                      · have p26000 := ne_of_beq_false h26000
                        cases h29000 : (x.op == (22 : Int))
                        · have p29000 := ne_of_beq_false h29000
                          cases h32000 : (x.op == (23 : Int))
                          · have p32000 := ne_of_beq_false h32000
                            cases h35000 : (x.op == (24 : Int))
                            · have p35000 := ne_of_beq_false h35000
                              cases h2001 : (a != (0 : Int))
                              · have p2001 := bne_eq_false_iff_eq.1 h2001
                                exact ok_run Tryd.func35 rfl rfl mixed 400 [(0, .nm 701), (4000, .b false), (8000, .b false), (10000, .b false), (12000, .b false), (13000, .b false), (15000, .b false), (18000, .b false), (21000, .b false), (24000, .b false), (25000, .b false), (26000, .b false), (29000, .b false), (32000, .b false), (35000, .b false), (2001, .b false)] (.cons h4000 (.cons h8000 (.cons h10000 (.cons h12000 (.cons h13000 (.cons h15000 (.cons h18000 (all8 h21000 h24000 h25000 h26000 h29000 h32000 h35000 h2001)))))))) (by kernel_rfl)
                              · have p2001 := bne_iff_ne.1 h2001
                                cases h2005 : (a == b)
                                · have p2005 := ne_of_beq_false h2005
                                  exact ok_run Tryd.func35 rfl rfl mixed 400 [(0, .nm 701), (4000, .b false), (8000, .b false), (10000, .b false), (12000, .b false), (13000, .b false), (15000, .b false), (18000, .b false), (21000, .b false), (24000, .b false), (25000, .b false), (26000, .b false), (29000, .b false), (32000, .b false), (35000, .b false), (2001, .b true), (2005, .b false)] (.cons h4000 (.cons h8000 (.cons h10000 (.cons h12000 (.cons h13000 (.cons h15000 (.cons h18000 (.cons h21000 (all8 h24000 h25000 h26000 h29000 h32000 h35000 h2001 h2005))))))))) (by kernel_rfl)
                                · have p2005 := eq_of_beq h2005
                                  exact ok_run Tryd.func35 rfl rfl mixed 400 [(0, .nm 701), (4000, .b false), (8000, .b false), (10000, .b false), (12000, .b false), (13000, .b false), (15000, .b false), (18000, .b false), (21000, .b false), (24000, .b false), (25000, .b false), (26000, .b false), (29000, .b false), (32000, .b false), (35000, .b false), (2001, .b true), (2005, .b true)] (.cons h4000 (.cons h8000 (.cons h10000 (.cons h12000 (.cons h13000 (.cons h15000 (.cons h18000 (.cons h21000 (all8 h24000 h25000 h26000 h29000 h32000 h35000 h2001 h2005))))))))) (by kernel_rfl)
                            · have p35000 := eq_of_beq h35000
                              cases h36001 : (a == (0 : Int))
                              · have p36001 := ne_of_beq_false h36001
                                exact ok_run Tryd.func35 rfl rfl mixed 400 [(0, .nm 701), (4000, .b false), (8000, .b false), (10000, .b false), (12000, .b false), (13000, .b false), (15000, .b false), (18000, .b false), (21000, .b false), (24000, .b false), (25000, .b false), (26000, .b false), (29000, .b false), (32000, .b false), (35000, .b true), (36001, .b false)] (.cons h4000 (.cons h8000 (.cons h10000 (.cons h12000 (.cons h13000 (.cons h15000 (.cons h18000 (all8 h21000 h24000 h25000 h26000 h29000 h32000 h35000 h36001)))))))) (by kernel_rfl)
                              · have p36001 := eq_of_beq h36001
                                cases h36004 : (b == (64 : Int))
                                · have p36004 := ne_of_beq_false h36004
                                  exact ok_run Tryd.func35 rfl rfl mixed 400 [(0, .nm 701), (4000, .b false), (8000, .b false), (10000, .b false), (12000, .b false), (13000, .b false), (15000, .b false), (18000, .b false), (21000, .b false), (24000, .b false), (25000, .b false), (26000, .b false), (29000, .b false), (32000, .b false), (35000, .b true), (36001, .b true), (36004, .b false)] (.cons h4000 (.cons h8000 (.cons h10000 (.cons h12000 (.cons h13000 (.cons h15000 (.cons h18000 (.cons h21000 (all8 h24000 h25000 h26000 h29000 h32000 h35000 h36001 h36004))))))))) (by kernel_rfl)
                                · have p36004 := eq_of_beq h36004
                                  cases h36008 : (c == (8 : Int))
                                  · have p36008 := ne_of_beq_false h36008
                                    exact ok_run Tryd.func35 rfl rfl mixed 400 [(0, .nm 701), (4000, .b false), (8000, .b false), (10000, .b false), (12000, .b false), (13000, .b false), (15000, .b false), (18000, .b false), (21000, .b false), (24000, .b false), (25000, .b false), (26000, .b false), (29000, .b false), (32000, .b false), (35000, .b true), (36001, .b true), (36004, .b true), (36008, .b false)] (.cons h4000 (.cons h8000 (.cons h10000 (.cons h12000 (.cons h13000 (.cons h15000 (.cons h18000 (.cons h21000 (.cons h24000 (all8 h25000 h26000 h29000 h32000 h35000 h36001 h36004 h36008)))))))))) (by kernel_rfl)
                                  · have p36008 := eq_of_beq h36008
                                    exact ok_run Tryd.func35 rfl rfl mixed 400 [(0, .nm 701), (4000, .b false), (8000, .b false), (10000, .b false), (12000, .b false), (13000, .b false), (15000, .b false), (18000, .b false), (21000, .b false), (24000, .b false), (25000, .b false), (26000, .b false), (29000, .b false), (32000, .b false), (35000, .b true), (36001, .b true), (36004, .b true), (36008, .b true)] (.cons h4000 (.cons h8000 (.cons h10000 (.cons h12000 (.cons h13000 (.cons h15000 (.cons h18000 (.cons h21000 (.cons h24000 (all8 h25000 h26000 h29000 h32000 h35000 h36001 h36004 h36008)))))))))) (by kernel_rfl)
                          · have p32000 := eq_of_beq h32000
                            cases h33001 : (a == (0 : Int))
                            · have p33001 := ne_of_beq_false h33001
                              exact ok_run Tryd.func35 rfl rfl mixed 400 [(0, .nm 701), (4000, .b false), (8000, .b false), (10000, .b false), (12000, .b false), (13000, .b false), (15000, .b false), (18000, .b false), (21000, .b false), (24000, .b false), (25000, .b false), (26000, .b false), (29000, .b false), (32000, .b true), (33001, .b false)] (.cons h4000 (.cons h8000 (.cons h10000 (.cons h12000 (.cons h13000 (.cons h15000 (all8 h18000 h21000 h24000 h25000 h26000 h29000 h32000 h33001))))))) (by kernel_rfl)
                            · have p33001 := eq_of_beq h33001
                              cases h33004 : (b == (64 : Int))
                              · have p33004 := ne_of_beq_false h33004
                                exact ok_run Tryd.func35 rfl rfl mixed 400 [(0, .nm 701), (4000, .b false), (8000, .b false), (10000, .b false), (12000, .b false), (13000, .b false), (15000, .b false), (18000, .b false), (21000, .b false), (24000, .b false), (25000, .b false), (26000, .b false), (29000, .b false), (32000, .b true), (33001, .b true), (33004, .b false)] (.cons h4000 (.cons h8000 (.cons h10000 (.cons h12000 (.cons h13000 (.cons h15000 (.cons h18000 (all8 h21000 h24000 h25000 h26000 h29000 h32000 h33001 h33004)))))))) (by kernel_rfl)
                              · have p33004 := eq_of_beq h33004
                                exact ok_run Tryd.func35 rfl rfl mixed 400 [(0, .nm 701), (4000, .b false), (8000, .b false), (10000, .b false), (12000, .b false), (13000, .b false), (15000, .b false), (18000, .b false), (21000, .b false), (24000, .b false), (25000, .b false), (26000, .b false), (29000, .b false), (32000, .b true), (33001, .b true), (33004, .b true)] (.cons h4000 (.cons h8000 (.cons h10000 (.cons h12000 (.cons h13000 (.cons h15000 (.cons h18000 (all8 h21000 h24000 h25000 h26000 h29000 h32000 h33001 h33004)))))))) (by kernel_rfl)
                        · have p29000 := eq_of_beq h29000
                          cases h30001 : (a == (1 : Int))
                          · have p30001 := ne_of_beq_false h30001
                            exact ok_run Tryd.func35 rfl rfl mixed 400 [(0, .nm 701), (4000, .b false), (8000, .b false), (10000, .b false), (12000, .b false), (13000, .b false), (15000, .b false), (18000, .b false), (21000, .b false), (24000, .b false), (25000, .b false), (26000, .b false), (29000, .b true), (30001, .b false)] (.cons h4000 (.cons h8000 (.cons h10000 (.cons h12000 (.cons h13000 (all8 h15000 h18000 h21000 h24000 h25000 h26000 h29000 h30001)))))) (by kernel_rfl)
                          · have p30001 := eq_of_beq h30001
                            cases h30004 : (b != (0 : Int))
                            · have p30004 := bne_eq_false_iff_eq.1 h30004
                              exact ok_run Tryd.func35 rfl rfl mixed 400 [(0, .nm 701), (4000, .b false), (8000, .b false), (10000, .b false), (12000, .b false), (13000, .b false), (15000, .b false), (18000, .b false), (21000, .b false), (24000, .b false), (25000, .b false), (26000, .b false), (29000, .b true), (30001, .b true), (30004, .b false)] (.cons h4000 (.cons h8000 (.cons h10000 (.cons h12000 (.cons h13000 (.cons h15000 (all8 h18000 h21000 h24000 h25000 h26000 h29000 h30001 h30004))))))) (by kernel_rfl)
                            · have p30004 := bne_iff_ne.1 h30004
                              cases h30009 : (b == c)
                              · have p30009 := ne_of_beq_false h30009
                                exact ok_run Tryd.func35 rfl rfl mixed 400 [(0, .nm 701), (4000, .b false), (8000, .b false), (10000, .b false), (12000, .b false), (13000, .b false), (15000, .b false), (18000, .b false), (21000, .b false), (24000, .b false), (25000, .b false), (26000, .b false), (29000, .b true), (30001, .b true), (30004, .b true), (30009, .b false)] (.cons h4000 (.cons h8000 (.cons h10000 (.cons h12000 (.cons h13000 (.cons h15000 (.cons h18000 (all8 h21000 h24000 h25000 h26000 h29000 h30001 h30004 h30009)))))))) (by kernel_rfl)
                              · have p30009 := eq_of_beq h30009
                                exact ok_run Tryd.func35 rfl rfl mixed 400 [(0, .nm 701), (4000, .b false), (8000, .b false), (10000, .b false), (12000, .b false), (13000, .b false), (15000, .b false), (18000, .b false), (21000, .b false), (24000, .b false), (25000, .b false), (26000, .b false), (29000, .b true), (30001, .b true), (30004, .b true), (30009, .b true)] (.cons h4000 (.cons h8000 (.cons h10000 (.cons h12000 (.cons h13000 (.cons h15000 (.cons h18000 (all8 h21000 h24000 h25000 h26000 h29000 h30001 h30004 h30009)))))))) (by kernel_rfl)
                      · have p26000 := eq_of_beq h26000
                        cases h27001 : (a != (0 : Int))
                        · have p27001 := bne_eq_false_iff_eq.1 h27001
                          exact ok_run Tryd.func35 rfl rfl mixed 400 [(0, .nm 701), (4000, .b false), (8000, .b false), (10000, .b false), (12000, .b false), (13000, .b false), (15000, .b false), (18000, .b false), (21000, .b false), (24000, .b false), (25000, .b false), (26000, .b true), (27001, .b false)] (.cons h4000 (.cons h8000 (.cons h10000 (.cons h12000 (all8 h13000 h15000 h18000 h21000 h24000 h25000 h26000 h27001))))) (by kernel_rfl)
                        · have p27001 := bne_iff_ne.1 h27001
                          cases h27005 : (a == b)
                          · have p27005 := ne_of_beq_false h27005
                            exact ok_run Tryd.func35 rfl rfl mixed 400 [(0, .nm 701), (4000, .b false), (8000, .b false), (10000, .b false), (12000, .b false), (13000, .b false), (15000, .b false), (18000, .b false), (21000, .b false), (24000, .b false), (25000, .b false), (26000, .b true), (27001, .b true), (27005, .b false)] (.cons h4000 (.cons h8000 (.cons h10000 (.cons h12000 (.cons h13000 (all8 h15000 h18000 h21000 h24000 h25000 h26000 h27001 h27005)))))) (by kernel_rfl)
                          · have p27005 := eq_of_beq h27005
                            exact ok_run Tryd.func35 rfl rfl mixed 400 [(0, .nm 701), (4000, .b false), (8000, .b false), (10000, .b false), (12000, .b false), (13000, .b false), (15000, .b false), (18000, .b false), (21000, .b false), (24000, .b false), (25000, .b false), (26000, .b true), (27001, .b true), (27005, .b true)] (.cons h4000 (.cons h8000 (.cons h10000 (.cons h12000 (.cons h13000 (all8 h15000 h18000 h21000 h24000 h25000 h26000 h27001 h27005)))))) (by kernel_rfl)
                    · have p25000 := eq_of_beq h25000
                      cases h27001 : (a != (0 : Int))
                      · have p27001 := bne_eq_false_iff_eq.1 h27001
                        exact ok_run Tryd.func35 rfl rfl mixed 400 [(0, .nm 701), (4000, .b false), (8000, .b false), (10000, .b false), (12000, .b false), (13000, .b false), (15000, .b false), (18000, .b false), (21000, .b false), (24000, .b false), (25000, .b true), (27001, .b false)] (.cons h4000 (.cons h8000 (.cons h10000 (all8 h12000 h13000 h15000 h18000 h21000 h24000 h25000 h27001)))) (by kernel_rfl)
                      · have p27001 := bne_iff_ne.1 h27001
                        cases h27005 : (a == b)
                        · have p27005 := ne_of_beq_false h27005
                          exact ok_run Tryd.func35 rfl rfl mixed 400 [(0, .nm 701), (4000, .b false), (8000, .b false), (10000, .b false), (12000, .b false), (13000, .b false), (15000, .b false), (18000, .b false), (21000, .b false), (24000, .b false), (25000, .b true), (27001, .b true), (27005, .b false)] (.cons h4000 (.cons h8000 (.cons h10000 (.cons h12000 (all8 h13000 h15000 h18000 h21000 h24000 h25000 h27001 h27005))))) (by kernel_rfl)
                        · have p27005 := eq_of_beq h27005
                          exact ok_run Tryd.func35 rfl rfl mixed 400 [(0, .nm 701), (4000, .b false), (8000, .b false), (10000, .b false), (12000, .b false), (13000, .b false), (15000, .b false), (18000, .b false), (21000, .b false), (24000, .b false), (25000, .b true), (27001, .b true), (27005, .b true)] (.cons h4000 (.cons h8000 (.cons h10000 (.cons h12000 (all8 h13000 h15000 h18000 h21000 h24000 h25000 h27001 h27005))))) (by kernel_rfl)
                  · have p24000 := eq_of_beq h24000
                    cases h27001 : (a != (0 : Int))
                    · have p27001 := bne_eq_false_iff_eq.1 h27001
                      exact ok_run Tryd.func35 rfl rfl mixed 400 [(0, .nm 701), (4000, .b false), (8000, .b false), (10000, .b false), (12000, .b false), (13000, .b false), (15000, .b false), (18000, .b false), (21000, .b false), (24000, .b true), (27001, .b false)] (.cons h4000 (.cons h8000 (all8 h10000 h12000 h13000 h15000 h18000 h21000 h24000 h27001))) (by kernel_rfl)
                    · have p27001 := bne_iff_ne.1 h27001
                      cases h27005 : (a == b)
                      · have p27005 := ne_of_beq_false h27005
                        exact ok_run Tryd.func35 rfl rfl mixed 400 [(0, .nm 701), (4000, .b false), (8000, .b false), (10000, .b false), (12000, .b false), (13000, .b false), (15000, .b false), (18000, .b false), (21000, .b false), (24000, .b true), (27001, .b true), (27005, .b false)] (.cons h4000 (.cons h8000 (.cons h10000 (all8 h12000 h13000 h15000 h18000 h21000 h24000 h27001 h27005)))) (by kernel_rfl)
                      · have p27005 := eq_of_beq h27005
                        exact ok_run Tryd.func35 rfl rfl mixed 400 [(0, .nm 701), (4000, .b false), (8000, .b false), (10000, .b false), (12000, .b false), (13000, .b false), (15000, .b false), (18000, .b false), (21000, .b false), (24000, .b true), (27001, .b true), (27005, .b true)] (.cons h4000 (.cons h8000 (.cons h10000 (all8 h12000 h13000 h15000 h18000 h21000 h24000 h27001 h27005)))) (by kernel_rfl)
                · have p21000 := eq_of_beq h21000
                  cases h22001 : (a == (64 : Int))
                  · have p22001 := ne_of_beq_false h22001
                    exact ok_run Tryd.func35 rfl rfl mixed 400 [(0, .nm 701), (4000, .b false), (8000, .b false), (10000, .b false), (12000, .b false), (13000, .b false), (15000, .b false), (18000, .b false), (21000, .b true), (22001, .b false)] (.cons h4000 (all8 h8000 h10000 h12000 h13000 h15000 h18000 h21000 h22001)) (by kernel_rfl)
                  · have p22001 := eq_of_beq h22001
                    exact ok_run Tryd.func35 rfl rfl mixed 400 [(0, .nm 701), (4000, .b false), (8000, .b false), (10000, .b false), (12000, .b false), (13000, .b false), (15000, .b false), (18000, .b false), (21000, .b true), (22001, .b true)] (.cons h4000 (all8 h8000 h10000 h12000 h13000 h15000 h18000 h21000 h22001)) (by kernel_rfl)
              · have p18000 := eq_of_beq h18000
                cases h19001 : (a == (1 : Int))
                · have p19001 := ne_of_beq_false h19001
                  cases h19004 : (a == (8 : Int))
                  · have p19004 := ne_of_beq_false h19004
                    exact ok_run Tryd.func35 rfl rfl mixed 400 [(0, .nm 701), (4000, .b false), (8000, .b false), (10000, .b false), (12000, .b false), (13000, .b false), (15000, .b false), (18000, .b true), (19001, .b false), (19004, .b false)] (.cons h4000 (all8 h8000 h10000 h12000 h13000 h15000 h18000 h19001 h19004)) (by kernel_rfl)
                  · have p19004 := eq_of_beq h19004
                    exact ok_run Tryd.func35 rfl rfl mixed 400 [(0, .nm 701), (4000, .b false), (8000, .b false), (10000, .b false), (12000, .b false), (13000, .b false), (15000, .b false), (18000, .b true), (19001, .b false), (19004, .b true)] (.cons h4000 (all8 h8000 h10000 h12000 h13000 h15000 h18000 h19001 h19004)) (by kernel_rfl)
                · have p19001 := eq_of_beq h19001
                  exact ok_run Tryd.func35 rfl rfl mixed 400 [(0, .nm 701), (4000, .b false), (8000, .b false), (10000, .b false), (12000, .b false), (13000, .b false), (15000, .b false), (18000, .b true), (19001, .b true)] (all8 h4000 h8000 h10000 h12000 h13000 h15000 h18000 h19001) (by kernel_rfl)
            · have p15000 := eq_of_beq h15000
              cases h16001 : (a != (0 : Int))
              · have p16001 := bne_eq_false_iff_eq.1 h16001
                exact ok_run Tryd.func35 rfl rfl mixed 400 [(0, .nm 701), (4000, .b false), (8000, .b false), (10000, .b false), (12000, .b false), (13000, .b false), (15000, .b true), (16001, .b false)] (all7 h4000 h8000 h10000 h12000 h13000 h15000 h16001) (by kernel_rfl)
              · have p16001 := bne_iff_ne.1 h16001
                exact ok_run Tryd.func35 rfl rfl mixed 400 [(0, .nm 701), (4000, .b false), (8000, .b false), (10000, .b false), (12000, .b false), (13000, .b false), (15000, .b true), (16001, .b true)] (all7 h4000 h8000 h10000 h12000 h13000 h15000 h16001) (by kernel_rfl)
          · have p13000 := eq_of_beq h13000
            exact ok_run Tryd.func35 rfl rfl mixed 400 [(0, .nm 701), (4000, .b false), (8000, .b false), (10000, .b false), (12000, .b false), (13000, .b true)] (all5 h4000 h8000 h10000 h12000 h13000) (by kernel_rfl)
        · have p12000 := eq_of_beq h12000
          exact ok_run Tryd.func35 rfl rfl mixed 400 [(0, .nm 701), (4000, .b false), (8000, .b false), (10000, .b false), (12000, .b true)] (all4 h4000 h8000 h10000 h12000) (by kernel_rfl)
      · have p10000 := eq_of_beq h10000
        exact ok_run Tryd.func35 rfl rfl mixed 400 [(0, .nm 701), (4000, .b false), (8000, .b false), (10000, .b true)] (all3 h4000 h8000 h10000) (by kernel_rfl)
    · have p8000 := eq_of_beq h8000
      exact ok_run Tryd.func35 rfl rfl mixed 400 [(0, .nm 701), (4000, .b false), (8000, .b true)] (all2 h4000 h8000) (by kernel_rfl)
  · have p4000 := eq_of_beq h4000
    cases h5002 : (x.w == (1 : Int))
    · have p5002 := ne_of_beq_false h5002
      cases h5006 : (x.w == (8 : Int))
      · have p5006 := ne_of_beq_false h5006
        cases h5011 : (x.w == (64 : Int))
        · have p5011 := ne_of_beq_false h5011
          exact ok_run Tryd.func35 rfl rfl mixed 400 [(0, .nm 701), (4000, .b true), (5002, .b false), (5006, .b false), (5011, .b false)] (all4 h4000 h5002 h5006 h5011) (by kernel_rfl)
        · have p5011 := eq_of_beq h5011
          exact ok_run Tryd.func35 rfl rfl mixed 400 [(0, .nm 701), (4000, .b true), (5002, .b false), (5006, .b false), (5011, .b true)] (all4 h4000 h5002 h5006 h5011) (by kernel_rfl)
      · have p5006 := eq_of_beq h5006
        exact ok_run Tryd.func35 rfl rfl mixed 400 [(0, .nm 701), (4000, .b true), (5002, .b false), (5006, .b true)] (all3 h4000 h5002 h5006) (by kernel_rfl)
    · have p5002 := eq_of_beq h5002
      exact ok_run Tryd.func35 rfl rfl mixed 400 [(0, .nm 701), (4000, .b true), (5002, .b true)] (all2 h4000 h5002) (by kernel_rfl)

def rmos_s (x : Nd) : Int := (bif x.op == (0 : Int) then (bif x.w == (1 : Int) then (1 : Int) else (bif x.w == (8 : Int) then (255 : Int) else (18446744073709551615 : Int))) else (bif x.op == (1 : Int) then (15 : Int) else (bif x.op == (2 : Int) then (7 : Int) else (0 : Int))))
set_option maxRecDepth 100000 in
theorem rmos_ok (x : Nd)  : Ok Tryd.prog 36 [.agg (cat [.v (.int .i64 x.op), .v (.int .i64 x.w), .v (.int .u64 x.n)] (cat (arrA aI 3 x.k) []))] (look []) (.v (.int .u64 (rmos_s x))) (postOf [] []) := by
  unfold rmos_s
  cases h1002 : (x.op == (0 : Int))
  · have p1002 := ne_of_beq_false h1002
    cases h7002 : (x.op == (1 : Int))
    · have p7002 := ne_of_beq_false h7002
      cases h9002 : (x.op == (2 : Int))
      · have p9002 := ne_of_beq_false h9002
        exact ok_run Tryd.func36 rfl rfl mixed 400 [(0, .nm 701), (1002, .b false), (7002, .b false), (9002, .b false)] (all3 h1002 h7002 h9002) (by kernel_rfl)
      · have p9002 := eq_of_beq h9002
        exact ok_run Tryd.func36 rfl rfl mixed 400 [(0, .nm 701), (1002, .b false), (7002, .b false), (9002, .b true)] (all3 h1002 h7002 h9002) (by kernel_rfl)
    · have p7002 := eq_of_beq h7002
      exact ok_run Tryd.func36 rfl rfl mixed 400 [(0, .nm 701), (1002, .b false), (7002, .b true)] (all2 h1002 h7002) (by kernel_rfl)
  · have p1002 := eq_of_beq h1002
    cases h2002 : (x.w == (1 : Int))
    · have p2002 := ne_of_beq_false h2002
      cases h4002 : (x.w == (8 : Int))
      · have p4002 := ne_of_beq_false h4002
        exact ok_run Tryd.func36 rfl rfl mixed 400 [(0, .nm 701), (1002, .b true), (2002, .b false), (4002, .b false)] (all3 h1002 h2002 h4002) (by kernel_rfl)
      · have p4002 := eq_of_beq h4002
        exact ok_run Tryd.func36 rfl rfl mixed 400 [(0, .nm 701), (1002, .b true), (2002, .b false), (4002, .b true)] (all3 h1002 h2002 h4002) (by kernel_rfl)
    · have p2002 := eq_of_beq h2002
      exact ok_run Tryd.func36 rfl rfl mixed 400 [(0, .nm 701), (1002, .b true), (2002, .b true)] (all2 h1002 h2002) (by kernel_rfl)

def rrig_l0 (x : Nd) (l : List Nd) : Nat → (Nat → Int) → Int → Int
  | 0, _, _ => default
  | m + 1, f, i => (bif decide (i < (3 : Int)) then (bif decide (i ≥ (rkds_s x.op)) then (bif (x.k ((i).toNat)) != (0 : Int) then (9 : Int) else (rrig_l0 x l m f (i + 1))) else (bif decide ((x.k ((i).toNat)) < (0 : Int)) then (9 : Int) else (bif decide ((x.k ((i).toNat)) ≥ (l.length : Int)) then (9 : Int) else (rrig_l0 x l m (upd f ((i).toNat) ((l.getD ((x.k ((i).toNat)).toNat) default).w)) (i + 1))))) else (bif (rwd_s x (f 0) (f 1) (f 2)) != x.w then (8 : Int) else (bif decide (x.w < (0 : Int)) then (8 : Int) else (bif decide (x.n > (rmos_s x)) then (3 : Int) else (0 : Int)))))
set_option maxRecDepth 100000 in
theorem rrig_lok0 (x : Nd) (l : List Nd)  : ∀ (m : Nat) (f : (Nat → Int)) (i : Int), (0 ≤ i) → (3 - (i : Int)).toNat < m → Good Tryd.prog 16 Tryd.f16.ntmps (look []) false (.v (.int .i64 (rrig_l0 x l m f i))) (postOf [] []) (headAt Tryd.f16 0) [(1, .ro 6 l.length ((l).map eNd)), (2, .ptr 840 0), (4, .v (.int .i64 0)), (5, .ptr 841 0), (6, .v (.int .i64 i))] [(840, .cells (cat [.v (.int .i64 x.op), .v (.int .i64 x.w), .v (.int .u64 x.n)] (cat (arrA aI 3 x.k) [])) 39), (841, .cells (cat [] (cat (arrA aI 3 f) [])) 37)] := by
  intro m
  induction m with
  | zero => intro f i i0 hm; exact absurd hm (Nat.not_lt_zero _)
  | succ m ih =>
    intro f i i0 hm
    rw [rrig_l0]
    cases h5001 : (decide (i < (3 : Int)))
    · have p5001 := of_decide_eq_false h5001
      cases h13010 : ((rwd_s x (f 0) (f 1) (f 2)) != x.w)
      · have p13010 := bne_eq_false_iff_eq.1 h13010
        cases h13014 : (decide (x.w < (0 : Int)))
        · have p13014 := of_decide_eq_false h13014
          cases h15004 : (decide (x.n > (rmos_s x)))
          · have p15004 := of_decide_eq_false h15004
            exact good_run Tryd.func16 mixed 400 [(5001, .b false), (13007, .call [] [] (.v (.int .i64 (rwd_s x (f 0) (f 1) (f 2))))), (13010, .b false), (13014, .b false), (15003, .call [] [] (.v (.int .u64 (rmos_s x)))), (15004, .b false)] (all6 h5001 (rwd_ok x (f 0) (f 1) (f 2) ) h13010 h13014 (rmos_ok x ) h15004) (by kernel_rfl)
          · have p15004 := of_decide_eq_true h15004
            exact good_run Tryd.func16 mixed 400 [(5001, .b false), (13007, .call [] [] (.v (.int .i64 (rwd_s x (f 0) (f 1) (f 2))))), (13010, .b false), (13014, .b false), (15003, .call [] [] (.v (.int .u64 (rmos_s x)))), (15004, .b true)] (all6 h5001 (rwd_ok x (f 0) (f 1) (f 2) ) h13010 h13014 (rmos_ok x ) h15004) (by kernel_rfl)
        · have p13014 := of_decide_eq_true h13014
          exact good_run Tryd.func16 mixed 400 [(5001, .b false), (13007, .call [] [] (.v (.int .i64 (rwd_s x (f 0) (f 1) (f 2))))), (13010, .b false), (13014, .b true)] (all4 h5001 (rwd_ok x (f 0) (f 1) (f 2) ) h13010 h13014) (by kernel_rfl)
      · have p13010 := bne_iff_ne.1 h13010
        exact good_run Tryd.func16 mixed 400 [(5001, .b false), (13007, .call [] [] (.v (.int .i64 (rwd_s x (f 0) (f 1) (f 2))))), (13010, .b true)] (all3 h5001 (rwd_ok x (f 0) (f 1) (f 2) ) h13010) (by kernel_rfl)
    · have p5001 := of_decide_eq_true h5001
      cases h7004 : (decide (i ≥ (rkds_s x.op)))
      · have p7004 := of_decide_eq_false h7004
        cases h10004 : (decide ((x.k ((i).toNat)) < (0 : Int)))
        · have p10004 := of_decide_eq_false h10004
          cases h10012 : (decide ((x.k ((i).toNat)) ≥ (l.length : Int)))
          · have p10012 := of_decide_eq_false h10012
            refine good_head (T := [(1, .ro 6 l.length ((l).map eNd)), (2, .ptr 840 0), (4, .v (.int .i64 0)), (5, .ptr 841 0), (6, .v (.int .i64 (i + 1)))]) (H := [(840, .cells (cat [.v (.int .i64 x.op), .v (.int .i64 x.w), .v (.int .u64 x.n)] (cat (arrA aI 3 x.k) [])) 39), (841, .cells (cat [] (cat (arrA aI 3 (upd f ((i).toNat) ((l.getD ((x.k ((i).toNat)).toNat) default).w))) [])) 37)]) (todo' := headAt Tryd.f16 0) Tryd.func16 mixed 400 [(5001, .b true), (7003, .call [] [] (.v (.int .i64 (rkds_s x.op)))), (7004, .b false), (10002, .sym ((i).toNat)), (10003, .one (.v (.int .i64 (x.k ((i).toNat))))), (10004, .b false), (10008, .sym ((i).toNat)), (10009, .one (.v (.int .i64 (x.k ((i).toNat))))), (10012, .b false), (12004, .sym ((i).toNat)), (12005, .one (.v (.int .i64 (x.k ((i).toNat))))), (12006, .el (eNd (l.getD ((x.k ((i).toNat)).toNat) default))), (12009, .sym ((i).toNat)), (12010, .cls (cat [] (cat (arrA aI 3 (upd f ((i).toNat) ((l.getD ((x.k ((i).toNat)).toNat) default).w))) []))), (6001, .as_ (.v (.int .i64 (i + 1))))] (.cons h5001 (.cons (rkds_ok x.op ) (.cons h7004 (.cons (show i = (((i).toNat : Nat) : Int) by omega) (.cons (show (i).toNat < 3 by omega) (.cons (seg_get [.v (.int .i64 x.op), .v (.int .i64 x.w), .v (.int .u64 x.n)] aI 3 x.k [] ((i).toNat) (by omega)) (.cons h10004 (.cons (show i = (((i).toNat : Nat) : Int) by omega) (.cons (show (i).toNat < 3 by omega) (.cons (seg_get [.v (.int .i64 x.op), .v (.int .i64 x.w), .v (.int .u64 x.n)] aI 3 x.k [] ((i).toNat) (by omega)) (.cons h10012 (.cons (show i = (((i).toNat : Nat) : Int) by omega) (.cons (show (i).toNat < 3 by omega) (all8 (seg_get [.v (.int .i64 x.op), .v (.int .i64 x.w), .v (.int .u64 x.n)] aI 3 x.k [] ((i).toNat) (by omega)) (show (0 : Int) ≤ x.k ((i).toNat) by omega) (getg (l := l) (n := (x.k ((i).toNat)).toNat) eNd default (by omega)) (show i = (((i).toNat : Nat) : Int) by omega) (show (i).toNat < 3 by omega) (seg_le [] aI 3 f [] ((i).toNat) ((l.getD ((x.k ((i).toNat)).toNat) default).w) (by omega)) (seg_set [] aI 3 f [] ((i).toNat) ((l.getD ((x.k ((i).toNat)).toNat) default).w) (by omega)) (wr64 (x := i + 1) (by omega)))))))))))))))) (by kernel_rfl) ?_
            exact ih (upd f ((i).toNat) ((l.getD ((x.k ((i).toNat)).toNat) default).w)) (i + 1) (by omega) (by omega)
          · have p10012 := of_decide_eq_true h10012
            exact good_run Tryd.func16 mixed 400 [(5001, .b true), (7003, .call [] [] (.v (.int .i64 (rkds_s x.op)))), (7004, .b false), (10002, .sym ((i).toNat)), (10003, .one (.v (.int .i64 (x.k ((i).toNat))))), (10004, .b false), (10008, .sym ((i).toNat)), (10009, .one (.v (.int .i64 (x.k ((i).toNat))))), (10012, .b true)] (.cons h5001 (.cons (rkds_ok x.op ) (.cons h7004 (all8 (show i = (((i).toNat : Nat) : Int) by omega) (show (i).toNat < 3 by omega) (seg_get [.v (.int .i64 x.op), .v (.int .i64 x.w), .v (.int .u64 x.n)] aI 3 x.k [] ((i).toNat) (by omega)) h10004 (show i = (((i).toNat : Nat) : Int) by omega) (show (i).toNat < 3 by omega) (seg_get [.v (.int .i64 x.op), .v (.int .i64 x.w), .v (.int .u64 x.n)] aI 3 x.k [] ((i).toNat) (by omega)) h10012)))) (by kernel_rfl)
        · have p10004 := of_decide_eq_true h10004
          exact good_run Tryd.func16 mixed 400 [(5001, .b true), (7003, .call [] [] (.v (.int .i64 (rkds_s x.op)))), (7004, .b false), (10002, .sym ((i).toNat)), (10003, .one (.v (.int .i64 (x.k ((i).toNat))))), (10004, .b true)] (all7 h5001 (rkds_ok x.op ) h7004 (show i = (((i).toNat : Nat) : Int) by omega) (show (i).toNat < 3 by omega) (seg_get [.v (.int .i64 x.op), .v (.int .i64 x.w), .v (.int .u64 x.n)] aI 3 x.k [] ((i).toNat) (by omega)) h10004) (by kernel_rfl)
      · have p7004 := of_decide_eq_true h7004
        cases h8004 : ((x.k ((i).toNat)) != (0 : Int))
        · have p8004 := bne_eq_false_iff_eq.1 h8004
          refine good_head (T := [(1, .ro 6 l.length ((l).map eNd)), (2, .ptr 840 0), (4, .v (.int .i64 0)), (5, .ptr 841 0), (6, .v (.int .i64 (i + 1)))]) (H := [(840, .cells (cat [.v (.int .i64 x.op), .v (.int .i64 x.w), .v (.int .u64 x.n)] (cat (arrA aI 3 x.k) [])) 39), (841, .cells (cat [] (cat (arrA aI 3 f) [])) 37)]) (todo' := headAt Tryd.f16 0) Tryd.func16 mixed 400 [(5001, .b true), (7003, .call [] [] (.v (.int .i64 (rkds_s x.op)))), (7004, .b true), (8002, .sym ((i).toNat)), (8003, .one (.v (.int .i64 (x.k ((i).toNat))))), (8004, .b false), (6001, .as_ (.v (.int .i64 (i + 1))))] (all8 h5001 (rkds_ok x.op ) h7004 (show i = (((i).toNat : Nat) : Int) by omega) (show (i).toNat < 3 by omega) (seg_get [.v (.int .i64 x.op), .v (.int .i64 x.w), .v (.int .u64 x.n)] aI 3 x.k [] ((i).toNat) (by omega)) h8004 (wr64 (x := i + 1) (by omega))) (by kernel_rfl) ?_
          exact ih f (i + 1) (by omega) (by omega)
        · have p8004 := bne_iff_ne.1 h8004
          exact good_run Tryd.func16 mixed 400 [(5001, .b true), (7003, .call [] [] (.v (.int .i64 (rkds_s x.op)))), (7004, .b true), (8002, .sym ((i).toNat)), (8003, .one (.v (.int .i64 (x.k ((i).toNat))))), (8004, .b true)] (all7 h5001 (rkds_ok x.op ) h7004 (show i = (((i).toNat : Nat) : Int) by omega) (show (i).toNat < 3 by omega) (seg_get [.v (.int .i64 x.op), .v (.int .i64 x.w), .v (.int .u64 x.n)] aI 3 x.k [] ((i).toNat) (by omega)) h8004) (by kernel_rfl)
def rrig_s (x : Nd) (l : List Nd) : Int := (bif decide (x.op < (0 : Int)) then (4 : Int) else (bif decide (x.op > (24 : Int)) then (4 : Int) else (rrig_l0 x l ((3 - ((0) : Int)).toNat + 1) (fun _ => 0) 0)))
set_option maxRecDepth 100000 in
theorem rrig_ok (x : Nd) (l : List Nd)  : Ok Tryd.prog 16 [.agg (cat [.v (.int .i64 x.op), .v (.int .i64 x.w), .v (.int .u64 x.n)] (cat (arrA aI 3 x.k) [])), .ro 6 l.length ((l).map eNd)] (look []) (.v (.int .i64 (rrig_s x l))) (postOf [] []) := by
  unfold rrig_s
  cases h1002 : (decide (x.op < (0 : Int)))
  · have p1002 := of_decide_eq_false h1002
    cases h1006 : (decide (x.op > (24 : Int)))
    · have p1006 := of_decide_eq_false h1006
      refine ok_head (T := [(1, .ro 6 l.length ((l).map eNd)), (2, .ptr 840 0), (4, .v (.int .i64 0)), (5, .ptr 841 0), (6, .v (.int .i64 0))]) (H := [(840, .cells (cat [.v (.int .i64 x.op), .v (.int .i64 x.w), .v (.int .u64 x.n)] (cat (arrA aI 3 x.k) [])) 39), (841, .cells (cat [] (cat (arrA aI 3 (fun _ => 0)) [])) 37)]) (todo := headAt Tryd.f16 0) Tryd.func16 rfl rfl mixed 400 [(0, .nm 840), (1002, .b false), (1006, .b false), (3001, .nm 841)] (all2 h1002 h1006) (by kernel_rfl) ?_
      exact rrig_lok0 x l _ (fun _ => 0) 0 (by omega) (Nat.lt_succ_self _)
    · have p1006 := of_decide_eq_true h1006
      exact ok_run Tryd.func16 rfl rfl mixed 400 [(0, .nm 840), (1002, .b false), (1006, .b true)] (all2 h1002 h1006) (by kernel_rfl)
  · have p1002 := of_decide_eq_true h1002
    exact ok_run Tryd.func16 rfl rfl mixed 400 [(0, .nm 840), (1002, .b true)] (all1 h1002) (by kernel_rfl)

def rchk_l0 (l : List Nd) : Nat → Int → Int × Int
  | 0, _ => default
  | m + 1, i => (bif decide (i < (l.length : Int)) then (bif i == (65536 : Int) then ((10 : Int), i) else (bif (rrig_s (l.getD ((i).toNat) default) ((l.take ((i).toNat)).drop 0)) != (0 : Int) then ((rrig_s (l.getD ((i).toNat) default) ((l.take ((i).toNat)).drop 0)), i) else (rchk_l0 l m (i + 1)))) else ((0 : Int), (0 : Int)))
set_option maxRecDepth 100000 in
theorem rchk_lok0 (l : List Nd) (hl : l.length < 2 ^ 40) : ∀ (m : Nat) (i : Int), (0 ≤ i) → (i ≤ l.length) → l.length - (i : Int).toNat < m → Good Tryd.prog 11 Tryd.f11.ntmps (look []) false (.tup [.v (.int .i64 ((rchk_l0 l m i).1)), .v (.int .i64 ((rchk_l0 l m i).2))]) (postOf [] []) (headAt Tryd.f11 0) [(0, .ro 6 l.length ((l).map eNd)), (2, .v (.int .i64 0)), (3, .v (.int .i64 0)), (4, .v (.int .i64 i))] [] := by
  intro m
  induction m with
  | zero => intro i i0 i1 hm; exact absurd hm (Nat.not_lt_zero _)
  | succ m ih =>
    intro i i0 i1 hm
    rw [rchk_l0]
    cases h4003 : (decide (i < (l.length : Int)))
    · have p4003 := of_decide_eq_false h4003
      exact good_run Tryd.func11 mixed 400 [(4003, .b false)] (all1 h4003) (by kernel_rfl)
    · have p4003 := of_decide_eq_true h4003
      cases h6001 : (i == (65536 : Int))
      · have p6001 := ne_of_beq_false h6001
        cases h9001 : ((rrig_s (l.getD ((i).toNat) default) ((l.take ((i).toNat)).drop 0)) != (0 : Int))
        · have p9001 := bne_eq_false_iff_eq.1 h9001
          refine good_head (T := [(0, .ro 6 l.length ((l).map eNd)), (2, .v (.int .i64 0)), (3, .v (.int .i64 0)), (4, .v (.int .i64 (i + 1)))]) (H := []) (todo' := headAt Tryd.f11 0) Tryd.func11 mixed 400 [(4003, .b true), (6001, .b false), (8002, .el (eNd (l.getD ((i).toNat) default))), (8006, .as_ (.ro 6 (((l.take ((i).toNat)).drop 0).length) (((l.take ((i).toNat)).drop 0).map eNd))), (8007, .call [] [] (.v (.int .i64 (rrig_s (l.getD ((i).toNat) default) ((l.take ((i).toNat)).drop 0))))), (9001, .b false), (5001, .as_ (.v (.int .i64 (i + 1))))] (.cons h4003 (.cons h6001 (.cons (show (0 : Int) ≤ i by omega) (all8 (getg (l := l) (n := (i).toNat) eNd default (by omega)) (show (0 : Int) ≤ 0 by decide) (show (0 : Int) ≤ i by omega) (show (i : Int) ≤ (l.length : Int) by omega) (slE eNd 6 l 0 ((i).toNat) (by omega)) (rrig_ok (l.getD ((i).toNat) default) ((l.take ((i).toNat)).drop 0) ) h9001 (wr64 (x := i + 1) (by omega)))))) (by kernel_rfl) ?_
          exact ih (i + 1) (by omega) (by omega) (by omega)
        · have p9001 := bne_iff_ne.1 h9001
          exact good_run Tryd.func11 mixed 400 [(4003, .b true), (6001, .b false), (8002, .el (eNd (l.getD ((i).toNat) default))), (8006, .as_ (.ro 6 (((l.take ((i).toNat)).drop 0).length) (((l.take ((i).toNat)).drop 0).map eNd))), (8007, .call [] [] (.v (.int .i64 (rrig_s (l.getD ((i).toNat) default) ((l.take ((i).toNat)).drop 0))))), (9001, .b true)] (.cons h4003 (.cons h6001 (all8 (show (0 : Int) ≤ i by omega) (getg (l := l) (n := (i).toNat) eNd default (by omega)) (show (0 : Int) ≤ 0 by decide) (show (0 : Int) ≤ i by omega) (show (i : Int) ≤ (l.length : Int) by omega) (slE eNd 6 l 0 ((i).toNat) (by omega)) (rrig_ok (l.getD ((i).toNat) default) ((l.take ((i).toNat)).drop 0) ) h9001))) (by kernel_rfl)
      · have p6001 := eq_of_beq h6001
        exact good_run Tryd.func11 mixed 400 [(4003, .b true), (6001, .b true)] (all2 h4003 h6001) (by kernel_rfl)
def rchk_s (l : List Nd) : Int × Int := (bif (l.length : Int) == (0 : Int) then ((11 : Int), (0 : Int)) else (rchk_l0 l (l.length - ((0) : Int).toNat + 1) 0))
set_option maxRecDepth 100000 in
theorem rchk_ok (l : List Nd) (hl : l.length < 2 ^ 40) : Ok Tryd.prog 11 [.ro 6 l.length ((l).map eNd)] (look []) (.tup [.v (.int .i64 ((rchk_s l).1)), .v (.int .i64 ((rchk_s l).2))]) (postOf [] []) := by
  unfold rchk_s
  cases h1002 : ((l.length : Int) == (0 : Int))
  · have p1002 := ne_of_beq_false h1002
    refine ok_head (T := [(0, .ro 6 l.length ((l).map eNd)), (2, .v (.int .i64 0)), (3, .v (.int .i64 0)), (4, .v (.int .i64 0))]) (H := []) (todo := headAt Tryd.f11 0) Tryd.func11 rfl rfl mixed 400 [(1002, .b false)] (all1 h1002) (by kernel_rfl) ?_
    exact rchk_lok0 l hl _ 0 (by omega) (by omega) (Nat.lt_succ_self _)
  · have p1002 := eq_of_beq h1002
    exact ok_run Tryd.func11 rfl rfl mixed 400 [(1002, .b true)] (all1 h1002) (by kernel_rfl)
end Go.Proofs.YtahobmjchppciaaDoor.Sx.M5
