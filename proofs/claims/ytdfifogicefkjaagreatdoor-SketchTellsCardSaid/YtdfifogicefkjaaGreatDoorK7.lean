/- What the functions of a chapter compute, as contracts; written by a program of this session. -/
import Derived.Test.YtdfifogicefkjaaGreatDoorK6
open Go Go.Proofs Go.RowKit
namespace Go.Proofs.YtdfifogicefkjaaGreatDoor.Sx.M5
set_option linter.unusedVariables false
set_option linter.unusedSimpArgs false
def qmee_l0 (w a b c e : Int) : Nat → (Nat → Int) → Int → Int × Int × Bool
  | 0, _, _ => default
  | m + 1, f, i => (bif decide (i < (rwid_s w)) then (bif (f ((i).toNat)) != (2 : Int) then (bif ((qof_s (rwid_s w) c e) ((i).toNat)) != (2 : Int) then (bif (f ((i).toNat)) != ((qof_s (rwid_s w) c e) ((i).toNat)) then ((0 : Int), (0 : Int), false) else (bif (f ((i).toNat)) == (2 : Int) then (qmee_l0 w a b c e m (upd f ((i).toNat) ((qof_s (rwid_s w) c e) ((i).toNat))) (i + 1)) else (qmee_l0 w a b c e m f (i + 1)))) else (bif (f ((i).toNat)) == (2 : Int) then (qmee_l0 w a b c e m (upd f ((i).toNat) ((qof_s (rwid_s w) c e) ((i).toNat))) (i + 1)) else (qmee_l0 w a b c e m f (i + 1)))) else (bif (f ((i).toNat)) == (2 : Int) then (qmee_l0 w a b c e m (upd f ((i).toNat) ((qof_s (rwid_s w) c e) ((i).toNat))) (i + 1)) else (qmee_l0 w a b c e m f (i + 1)))) else ((qbit_s f).1, (qbit_s f).2, true))
set_option maxRecDepth 100000 in
theorem qmee_lok0 (w a b c e : Int)  : ∀ (m : Nat) (f : (Nat → Int)) (i : Int), (0 ≤ i) → (rwid_s w - (i : Int)).toNat < m → Good Tryz.prog 39 Tryz.f39.ntmps (look []) false (.tup [.agg [.v (.int .u64 ((qmee_l0 w a b c e m f i).1)), .v (.int .u64 ((qmee_l0 w a b c e m f i).2.1))], .v (.bool ((qmee_l0 w a b c e m f i).2.2))]) (postOf [] []) (headAt Tryz.f39 0) [(6, .ptr 622 0), (7, .v (.bool false)), (8, .v (.int .i64 (rwid_s w))), (9, .ptr 623 0), (10, .ptr 624 0), (11, .v (.int .i64 i))] [(620, .cells [.v (.int .u64 a), .v (.int .u64 b)] 39), (621, .cells [.v (.int .u64 c), .v (.int .u64 e)] 39), (622, .cells [.v (.int .u64 0), .v (.int .u64 0)] 39), (623, .cells (cat [] (cat (arrA aI 64 f) [])) 92), (624, .cells (cat [] (cat (arrA aI 64 (qof_s (rwid_s w) c e)) [])) 92)] := by
  intro m
  induction m with
  | zero => intro f i i0 hm; exact absurd hm (Nat.not_lt_zero _)
  | succ m ih =>
    intro f i i0 hm
    rw [qmee_l0]
    have gw := rwid_rng w
    cases h4002 : (decide (i < (rwid_s w)))
    · have p4002 := of_decide_eq_false h4002
      exact good_run Tryz.func39 mixed 400 [(4002, .b false), (10001, .call [] [] (.agg [.v (.int .u64 ((qbit_s f).1)), .v (.int .u64 ((qbit_s f).2))]))] (all2 h4002 (qbit_ok f )) (by kernel_rfl)
    · have p4002 := of_decide_eq_true h4002
      cases h6003 : ((f ((i).toNat)) != (2 : Int))
      · have p6003 := bne_eq_false_iff_eq.1 h6003
        cases h8003 : ((f ((i).toNat)) == (2 : Int))
        · have p8003 := ne_of_beq_false h8003
          refine good_head (T := [(6, .ptr 622 0), (7, .v (.bool false)), (8, .v (.int .i64 (rwid_s w))), (9, .ptr 623 0), (10, .ptr 624 0), (11, .v (.int .i64 (i + 1)))]) (H := [(620, .cells [.v (.int .u64 a), .v (.int .u64 b)] 39), (621, .cells [.v (.int .u64 c), .v (.int .u64 e)] 39), (622, .cells [.v (.int .u64 0), .v (.int .u64 0)] 39), (623, .cells (cat [] (cat (arrA aI 64 f) [])) 92), (624, .cells (cat [] (cat (arrA aI 64 (qof_s (rwid_s w) c e)) [])) 92)]) (todo' := headAt Tryz.f39 0) Tryz.func39 mixed 400 [(4002, .b true), (6001, .sym ((i).toNat)), (6002, .one (.v (.int .i64 (f ((i).toNat))))), (6003, .b false), (8001, .sym ((i).toNat)), (8002, .one (.v (.int .i64 (f ((i).toNat))))), (8003, .b false), (5001, .as_ (.v (.int .i64 (i + 1))))] (.cons h4002 (.cons (show i = (((i).toNat : Nat) : Int) by omega) (all8 (show (i).toNat < 64 by omega) (seg_get [] aI 64 f [] ((i).toNat) (by omega)) h6003 (show i = (((i).toNat : Nat) : Int) by omega) (show (i).toNat < 64 by omega) (seg_get [] aI 64 f [] ((i).toNat) (by omega)) h8003 (wr64 (x := i + 1) (by omega))))) (by kernel_rfl) ?_
          exact ih f (i + 1) (by omega) (by omega)
        · have p8003 := eq_of_beq h8003
          refine good_head (T := [(6, .ptr 622 0), (7, .v (.bool false)), (8, .v (.int .i64 (rwid_s w))), (9, .ptr 623 0), (10, .ptr 624 0), (11, .v (.int .i64 (i + 1)))]) (H := [(620, .cells [.v (.int .u64 a), .v (.int .u64 b)] 39), (621, .cells [.v (.int .u64 c), .v (.int .u64 e)] 39), (622, .cells [.v (.int .u64 0), .v (.int .u64 0)] 39), (623, .cells (cat [] (cat (arrA aI 64 (upd f ((i).toNat) ((qof_s (rwid_s w) c e) ((i).toNat)))) [])) 92), (624, .cells (cat [] (cat (arrA aI 64 (qof_s (rwid_s w) c e)) [])) 92)]) (todo' := headAt Tryz.f39 0) Tryz.func39 mixed 400 [(4002, .b true), (6001, .sym ((i).toNat)), (6002, .one (.v (.int .i64 (f ((i).toNat))))), (6003, .b false), (8001, .sym ((i).toNat)), (8002, .one (.v (.int .i64 (f ((i).toNat))))), (8003, .b true), (9002, .sym ((i).toNat)), (9003, .one (.v (.int .i64 ((qof_s (rwid_s w) c e) ((i).toNat))))), (9004, .sym ((i).toNat)), (9005, .cls (cat [] (cat (arrA aI 64 (upd f ((i).toNat) ((qof_s (rwid_s w) c e) ((i).toNat)))) []))), (5001, .as_ (.v (.int .i64 (i + 1))))] (.cons h4002 (.cons (show i = (((i).toNat : Nat) : Int) by omega) (.cons (show (i).toNat < 64 by omega) (.cons (seg_get [] aI 64 f [] ((i).toNat) (by omega)) (.cons h6003 (.cons (show i = (((i).toNat : Nat) : Int) by omega) (.cons (show (i).toNat < 64 by omega) (.cons (seg_get [] aI 64 f [] ((i).toNat) (by omega)) (.cons h8003 (all8 (show i = (((i).toNat : Nat) : Int) by omega) (show (i).toNat < 64 by omega) (seg_get [] aI 64 (qof_s (rwid_s w) c e) [] ((i).toNat) (by omega)) (show i = (((i).toNat : Nat) : Int) by omega) (show (i).toNat < 64 by omega) (seg_le [] aI 64 f [] ((i).toNat) ((qof_s (rwid_s w) c e) ((i).toNat)) (by omega)) (seg_set [] aI 64 f [] ((i).toNat) ((qof_s (rwid_s w) c e) ((i).toNat)) (by omega)) (wr64 (x := i + 1) (by omega)))))))))))) (by kernel_rfl) ?_
          exact ih (upd f ((i).toNat) ((qof_s (rwid_s w) c e) ((i).toNat))) (i + 1) (by omega) (by omega)
      · have p6003 := bne_iff_ne.1 h6003
        cases h6008 : (((qof_s (rwid_s w) c e) ((i).toNat)) != (2 : Int))
        · have p6008 := bne_eq_false_iff_eq.1 h6008
          cases h8003 : ((f ((i).toNat)) == (2 : Int))
          · have p8003 := ne_of_beq_false h8003
            refine good_head (T := [(6, .ptr 622 0), (7, .v (.bool false)), (8, .v (.int .i64 (rwid_s w))), (9, .ptr 623 0), (10, .ptr 624 0), (11, .v (.int .i64 (i + 1)))]) (H := [(620, .cells [.v (.int .u64 a), .v (.int .u64 b)] 39), (621, .cells [.v (.int .u64 c), .v (.int .u64 e)] 39), (622, .cells [.v (.int .u64 0), .v (.int .u64 0)] 39), (623, .cells (cat [] (cat (arrA aI 64 f) [])) 92), (624, .cells (cat [] (cat (arrA aI 64 (qof_s (rwid_s w) c e)) [])) 92)]) (todo' := headAt Tryz.f39 0) Tryz.func39 mixed 400 [(4002, .b true), (6001, .sym ((i).toNat)), (6002, .one (.v (.int .i64 (f ((i).toNat))))), (6003, .b true), (6006, .sym ((i).toNat)), (6007, .one (.v (.int .i64 ((qof_s (rwid_s w) c e) ((i).toNat))))), (6008, .b false), (8001, .sym ((i).toNat)), (8002, .one (.v (.int .i64 (f ((i).toNat))))), (8003, .b false), (5001, .as_ (.v (.int .i64 (i + 1))))] (.cons h4002 (.cons (show i = (((i).toNat : Nat) : Int) by omega) (.cons (show (i).toNat < 64 by omega) (.cons (seg_get [] aI 64 f [] ((i).toNat) (by omega)) (.cons h6003 (.cons (show i = (((i).toNat : Nat) : Int) by omega) (all8 (show (i).toNat < 64 by omega) (seg_get [] aI 64 (qof_s (rwid_s w) c e) [] ((i).toNat) (by omega)) h6008 (show i = (((i).toNat : Nat) : Int) by omega) (show (i).toNat < 64 by omega) (seg_get [] aI 64 f [] ((i).toNat) (by omega)) h8003 (wr64 (x := i + 1) (by omega))))))))) (by kernel_rfl) ?_
            exact ih f (i + 1) (by omega) (by omega)
          · have p8003 := eq_of_beq h8003
            refine good_head (T := [(6, .ptr 622 0), (7, .v (.bool false)), (8, .v (.int .i64 (rwid_s w))), (9, .ptr 623 0), (10, .ptr 624 0), (11, .v (.int .i64 (i + 1)))]) (H := [(620, .cells [.v (.int .u64 a), .v (.int .u64 b)] 39), (621, .cells [.v (.int .u64 c), .v (.int .u64 e)] 39), (622, .cells [.v (.int .u64 0), .v (.int .u64 0)] 39), (623, .cells (cat [] (cat (arrA aI 64 (upd f ((i).toNat) ((qof_s (rwid_s w) c e) ((i).toNat)))) [])) 92), (624, .cells (cat [] (cat (arrA aI 64 (qof_s (rwid_s w) c e)) [])) 92)]) (todo' := headAt Tryz.f39 0) Tryz.func39 mixed 400 [(4002, .b true), (6001, .sym ((i).toNat)), (6002, .one (.v (.int .i64 (f ((i).toNat))))), (6003, .b true), (6006, .sym ((i).toNat)), (6007, .one (.v (.int .i64 ((qof_s (rwid_s w) c e) ((i).toNat))))), (6008, .b false), (8001, .sym ((i).toNat)), (8002, .one (.v (.int .i64 (f ((i).toNat))))), (8003, .b true), (9002, .sym ((i).toNat)), (9003, .one (.v (.int .i64 ((qof_s (rwid_s w) c e) ((i).toNat))))), (9004, .sym ((i).toNat)), (9005, .cls (cat [] (cat (arrA aI 64 (upd f ((i).toNat) ((qof_s (rwid_s w) c e) ((i).toNat)))) []))), (5001, .as_ (.v (.int .i64 (i + 1))))] (.cons h4002 (.cons (show i = (((i).toNat : Nat) : Int) by omega) (.cons (show (i).toNat < 64 by omega) (.cons (seg_get [] aI 64 f [] ((i).toNat) (by omega)) (.cons h6003 (.cons (show i = (((i).toNat : Nat) : Int) by omega) (.cons (show (i).toNat < 64 by omega) (.cons (seg_get [] aI 64 (qof_s (rwid_s w) c e) [] ((i).toNat) (by omega)) (.cons h6008 (.cons (show i = (((i).toNat : Nat) : Int) by omega) (.cons (show (i).toNat < 64 by omega) (.cons (seg_get [] aI 64 f [] ((i).toNat) (by omega)) (.cons h8003 (all8 (show i = (((i).toNat : Nat) : Int) by omega) (show (i).toNat < 64 by omega) (seg_get [] aI 64 (qof_s (rwid_s w) c e) [] ((i).toNat) (by omega)) (show i = (((i).toNat : Nat) : Int) by omega) (show (i).toNat < 64 by omega) (seg_le [] aI 64 f [] ((i).toNat) ((qof_s (rwid_s w) c e) ((i).toNat)) (by omega)) (seg_set [] aI 64 f [] ((i).toNat) ((qof_s (rwid_s w) c e) ((i).toNat)) (by omega)) (wr64 (x := i + 1) (by omega)))))))))))))))) (by kernel_rfl) ?_
            exact ih (upd f ((i).toNat) ((qof_s (rwid_s w) c e) ((i).toNat))) (i + 1) (by omega) (by omega)
        · have p6008 := bne_iff_ne.1 h6008
          cases h6017 : ((f ((i).toNat)) != ((qof_s (rwid_s w) c e) ((i).toNat)))
          · have p6017 := bne_eq_false_iff_eq.1 h6017
            cases h8003 : ((f ((i).toNat)) == (2 : Int))
            · have p8003 := ne_of_beq_false h8003
              refine good_head (T := [(6, .ptr 622 0), (7, .v (.bool false)), (8, .v (.int .i64 (rwid_s w))), (9, .ptr 623 0), (10, .ptr 624 0), (11, .v (.int .i64 (i + 1)))]) (H := [(620, .cells [.v (.int .u64 a), .v (.int .u64 b)] 39), (621, .cells [.v (.int .u64 c), .v (.int .u64 e)] 39), (622, .cells [.v (.int .u64 0), .v (.int .u64 0)] 39), (623, .cells (cat [] (cat (arrA aI 64 f) [])) 92), (624, .cells (cat [] (cat (arrA aI 64 (qof_s (rwid_s w) c e)) [])) 92)]) (todo' := headAt Tryz.f39 0) Tryz.func39 mixed 400 [(4002, .b true), (6001, .sym ((i).toNat)), (6002, .one (.v (.int .i64 (f ((i).toNat))))), (6003, .b true), (6006, .sym ((i).toNat)), (6007, .one (.v (.int .i64 ((qof_s (rwid_s w) c e) ((i).toNat))))), (6008, .b true), (6012, .sym ((i).toNat)), (6013, .one (.v (.int .i64 (f ((i).toNat))))), (6015, .sym ((i).toNat)), (6016, .one (.v (.int .i64 ((qof_s (rwid_s w) c e) ((i).toNat))))), (6017, .b false), (8001, .sym ((i).toNat)), (8002, .one (.v (.int .i64 (f ((i).toNat))))), (8003, .b false), (5001, .as_ (.v (.int .i64 (i + 1))))] (.cons h4002 (.cons (show i = (((i).toNat : Nat) : Int) by omega) (.cons (show (i).toNat < 64 by omega) (.cons (seg_get [] aI 64 f [] ((i).toNat) (by omega)) (.cons h6003 (.cons (show i = (((i).toNat : Nat) : Int) by omega) (.cons (show (i).toNat < 64 by omega) (.cons (seg_get [] aI 64 (qof_s (rwid_s w) c e) [] ((i).toNat) (by omega)) (.cons h6008 (.cons (show i = (((i).toNat : Nat) : Int) by omega) (.cons (show (i).toNat < 64 by omega) (.cons (seg_get [] aI 64 f [] ((i).toNat) (by omega)) (.cons (show i = (((i).toNat : Nat) : Int) by omega) (all8 (show (i).toNat < 64 by omega) (seg_get [] aI 64 (qof_s (rwid_s w) c e) [] ((i).toNat) (by omega)) h6017 (show i = (((i).toNat : Nat) : Int) by omega) (show (i).toNat < 64 by omega) (seg_get [] aI 64 f [] ((i).toNat) (by omega)) h8003 (wr64 (x := i + 1) (by omega)))))))))))))))) (by kernel_rfl) ?_
              exact ih f (i + 1) (by omega) (by omega)
            · have p8003 := eq_of_beq h8003
              refine good_head (T := [(6, .ptr 622 0), (7, .v (.bool false)), (8, .v (.int .i64 (rwid_s w))), (9, .ptr 623 0), (10, .ptr 624 0), (11, .v (.int .i64 (i + 1)))]) (H := [(620, .cells [.v (.int .u64 a), .v (.int .u64 b)] 39), (621, .cells [.v (.int .u64 c), .v (.int .u64 e)] 39), (622, .cells [.v (.int .u64 0), .v (.int .u64 0)] 39), (623, .cells (cat [] (cat (arrA aI 64 (upd f ((i).toNat) ((qof_s (rwid_s w) c e) ((i).toNat)))) [])) 92), (624, .cells (cat [] (cat (arrA aI 64 (qof_s (rwid_s w) c e)) [])) 92)]) (todo' := headAt Tryz.f39 0) Tryz.func39 mixed 400 [(4002, .b true), (6001, .sym ((i).toNat)), (6002, .one (.v (.int .i64 (f ((i).toNat))))), (6003, .b true), (6006, .sym ((i).toNat)), (6007, .one (.v (.int .i64 ((qof_s (rwid_s w) c e) ((i).toNat))))), (6008, .b true), (6012, .sym ((i).toNat)), (6013, .one (.v (.int .i64 (f ((i).toNat))))), (6015, .sym ((i).toNat)), (6016, .one (.v (.int .i64 ((qof_s (rwid_s w) c e) ((i).toNat))))), (6017, .b false), (8001, .sym ((i).toNat)), (8002, .one (.v (.int .i64 (f ((i).toNat))))), (8003, .b true), (9002, .sym ((i).toNat)), (9003, .one (.v (.int .i64 ((qof_s (rwid_s w) c e) ((i).toNat))))), (9004, .sym ((i).toNat)), (9005, .cls (cat [] (cat (arrA aI 64 (upd f ((i).toNat) ((qof_s (rwid_s w) c e) ((i).toNat)))) []))), (5001, .as_ (.v (.int .i64 (i + 1))))] (.cons h4002 (.cons (show i = (((i).toNat : Nat) : Int) by omega) (.cons (show (i).toNat < 64 by omega) (.cons (seg_get [] aI 64 f [] ((i).toNat) (by omega)) (.cons h6003 (.cons (show i = (((i).toNat : Nat) : Int) by omega) (.cons (show (i).toNat < 64 by omega) (.cons (seg_get [] aI 64 (qof_s (rwid_s w) c e) [] ((i).toNat) (by omega)) (.cons h6008 (.cons (show i = (((i).toNat : Nat) : Int) by omega) (.cons (show (i).toNat < 64 by omega) (.cons (seg_get [] aI 64 f [] ((i).toNat) (by omega)) (.cons (show i = (((i).toNat : Nat) : Int) by omega) (.cons (show (i).toNat < 64 by omega) (.cons (seg_get [] aI 64 (qof_s (rwid_s w) c e) [] ((i).toNat) (by omega)) (.cons h6017 (.cons (show i = (((i).toNat : Nat) : Int) by omega) (.cons (show (i).toNat < 64 by omega) (.cons (seg_get [] aI 64 f [] ((i).toNat) (by omega)) (.cons h8003 (all8 (show i = (((i).toNat : Nat) : Int) by omega) (show (i).toNat < 64 by omega) (seg_get [] aI 64 (qof_s (rwid_s w) c e) [] ((i).toNat) (by omega)) (show i = (((i).toNat : Nat) : Int) by omega) (show (i).toNat < 64 by omega) (seg_le [] aI 64 f [] ((i).toNat) ((qof_s (rwid_s w) c e) ((i).toNat)) (by omega)) (seg_set [] aI 64 f [] ((i).toNat) ((qof_s (rwid_s w) c e) ((i).toNat)) (by omega)) (wr64 (x := i + 1) (by omega))))))))))))))))))))))) (by kernel_rfl) ?_
              exact ih (upd f ((i).toNat) ((qof_s (rwid_s w) c e) ((i).toNat))) (i + 1) (by omega) (by omega)
          · have p6017 := bne_iff_ne.1 h6017
            exact good_run Tryz.func39 mixed 400 [(4002, .b true), (6001, .sym ((i).toNat)), (6002, .one (.v (.int .i64 (f ((i).toNat))))), (6003, .b true), (6006, .sym ((i).toNat)), (6007, .one (.v (.int .i64 ((qof_s (rwid_s w) c e) ((i).toNat))))), (6008, .b true), (6012, .sym ((i).toNat)), (6013, .one (.v (.int .i64 (f ((i).toNat))))), (6015, .sym ((i).toNat)), (6016, .one (.v (.int .i64 ((qof_s (rwid_s w) c e) ((i).toNat))))), (6017, .b true)] (.cons h4002 (.cons (show i = (((i).toNat : Nat) : Int) by omega) (.cons (show (i).toNat < 64 by omega) (.cons (seg_get [] aI 64 f [] ((i).toNat) (by omega)) (.cons h6003 (.cons (show i = (((i).toNat : Nat) : Int) by omega) (.cons (show (i).toNat < 64 by omega) (.cons (seg_get [] aI 64 (qof_s (rwid_s w) c e) [] ((i).toNat) (by omega)) (all8 h6008 (show i = (((i).toNat : Nat) : Int) by omega) (show (i).toNat < 64 by omega) (seg_get [] aI 64 f [] ((i).toNat) (by omega)) (show i = (((i).toNat : Nat) : Int) by omega) (show (i).toNat < 64 by omega) (seg_get [] aI 64 (qof_s (rwid_s w) c e) [] ((i).toNat) (by omega)) h6017))))))))) (by kernel_rfl)
def qmee_s (w a b c e : Int) : Int × Int × Bool := (qmee_l0 w a b c e ((rwid_s w - ((0) : Int)).toNat + 1) (qof_s (rwid_s w) a b) 0)
set_option maxRecDepth 100000 in
theorem qmee_ok (w a b c e : Int)  : Ok Tryz.prog 39 [.v (.int .i64 w), .agg [.v (.int .u64 a), .v (.int .u64 b)], .agg [.v (.int .u64 c), .v (.int .u64 e)]] (look []) (.tup [.agg [.v (.int .u64 ((qmee_s w a b c e).1)), .v (.int .u64 ((qmee_s w a b c e).2.1))], .v (.bool ((qmee_s w a b c e).2.2))]) (postOf [] []) := by
  unfold qmee_s
  have gw := rwid_rng w
  refine ok_head (T := [(6, .ptr 622 0), (7, .v (.bool false)), (8, .v (.int .i64 (rwid_s w))), (9, .ptr 623 0), (10, .ptr 624 0), (11, .v (.int .i64 0))]) (H := [(620, .cells [.v (.int .u64 a), .v (.int .u64 b)] 39), (621, .cells [.v (.int .u64 c), .v (.int .u64 e)] 39), (622, .cells [.v (.int .u64 0), .v (.int .u64 0)] 39), (623, .cells (cat [] (cat (arrA aI 64 (qof_s (rwid_s w) a b)) [])) 92), (624, .cells (cat [] (cat (arrA aI 64 (qof_s (rwid_s w) c e)) [])) 92)]) (todo := headAt Tryz.f39 0) Tryz.func39 rfl rfl mixed 400 [(0, .nm 620), (1, .nm 621), (2, .nm 622), (1001, .call [] [] (.v (.int .i64 (rwid_s w)))), (2002, .call [] [] (.agg (cat [] (cat (arrA aI 64 (qof_s (rwid_s w) a b)) [])))), (2005, .call [] [] (.agg (cat [] (cat (arrA aI 64 (qof_s (rwid_s w) c e)) [])))), (2006, .nm 623), (2007, .nm 624)] (all3 (rwid_ok w ) (qof_ok (rwid_s w) a b ) (qof_ok (rwid_s w) c e )) (by kernel_rfl) ?_
  exact qmee_lok0 w a b c e _ (qof_s (rwid_s w) a b) 0 (by omega) (Nat.lt_succ_self _)

def qjoi_l0 (w a b c e : Int) : Nat → (Nat → Int) → Int → Int × Int
  | 0, _, _ => default
  | m + 1, f, i => (bif decide (i < (rwid_s w)) then (bif (f ((i).toNat)) != ((qof_s (rwid_s w) c e) ((i).toNat)) then (qjoi_l0 w a b c e m (upd f ((i).toNat) 2) (i + 1)) else (qjoi_l0 w a b c e m f (i + 1))) else ((qbit_s f).1, (qbit_s f).2))
set_option maxRecDepth 100000 in
theorem qjoi_lok0 (w a b c e : Int)  : ∀ (m : Nat) (f : (Nat → Int)) (i : Int), (0 ≤ i) → (rwid_s w - (i : Int)).toNat < m → Good Tryz.prog 61 Tryz.f61.ntmps (look []) false (.agg [.v (.int .u64 ((qjoi_l0 w a b c e m f i).1)), .v (.int .u64 ((qjoi_l0 w a b c e m f i).2))]) (postOf [] []) (headAt Tryz.f61 0) [(6, .ptr 622 0), (7, .v (.int .i64 (rwid_s w))), (8, .ptr 623 0), (9, .ptr 624 0), (10, .v (.int .i64 i))] [(620, .cells [.v (.int .u64 a), .v (.int .u64 b)] 39), (621, .cells [.v (.int .u64 c), .v (.int .u64 e)] 39), (622, .cells [.v (.int .u64 0), .v (.int .u64 0)] 39), (623, .cells (cat [] (cat (arrA aI 64 f) [])) 92), (624, .cells (cat [] (cat (arrA aI 64 (qof_s (rwid_s w) c e)) [])) 92)] := by
  intro m
  induction m with
  | zero => intro f i i0 hm; exact absurd hm (Nat.not_lt_zero _)
  | succ m ih =>
    intro f i i0 hm
    rw [qjoi_l0]
    have gw := rwid_rng w
    cases h4002 : (decide (i < (rwid_s w)))
    · have p4002 := of_decide_eq_false h4002
      exact good_run Tryz.func61 mixed 400 [(4002, .b false), (8001, .call [] [] (.agg [.v (.int .u64 ((qbit_s f).1)), .v (.int .u64 ((qbit_s f).2))]))] (all2 h4002 (qbit_ok f )) (by kernel_rfl)
    · have p4002 := of_decide_eq_true h4002
      cases h6006 : ((f ((i).toNat)) != ((qof_s (rwid_s w) c e) ((i).toNat)))
      · have p6006 := bne_eq_false_iff_eq.1 h6006
        refine good_head (T := [(6, .ptr 622 0), (7, .v (.int .i64 (rwid_s w))), (8, .ptr 623 0), (9, .ptr 624 0), (10, .v (.int .i64 (i + 1)))]) (H := [(620, .cells [.v (.int .u64 a), .v (.int .u64 b)] 39), (621, .cells [.v (.int .u64 c), .v (.int .u64 e)] 39), (622, .cells [.v (.int .u64 0), .v (.int .u64 0)] 39), (623, .cells (cat [] (cat (arrA aI 64 f) [])) 92), (624, .cells (cat [] (cat (arrA aI 64 (qof_s (rwid_s w) c e)) [])) 92)]) (todo' := headAt Tryz.f61 0) Tryz.func61 mixed 400 [(4002, .b true), (6001, .sym ((i).toNat)), (6002, .one (.v (.int .i64 (f ((i).toNat))))), (6004, .sym ((i).toNat)), (6005, .one (.v (.int .i64 ((qof_s (rwid_s w) c e) ((i).toNat))))), (6006, .b false), (5001, .as_ (.v (.int .i64 (i + 1))))] (.cons h4002 (all8 (show i = (((i).toNat : Nat) : Int) by omega) (show (i).toNat < 64 by omega) (seg_get [] aI 64 f [] ((i).toNat) (by omega)) (show i = (((i).toNat : Nat) : Int) by omega) (show (i).toNat < 64 by omega) (seg_get [] aI 64 (qof_s (rwid_s w) c e) [] ((i).toNat) (by omega)) h6006 (wr64 (x := i + 1) (by omega)))) (by kernel_rfl) ?_
        exact ih f (i + 1) (by omega) (by omega)
      · have p6006 := bne_iff_ne.1 h6006
        refine good_head (T := [(6, .ptr 622 0), (7, .v (.int .i64 (rwid_s w))), (8, .ptr 623 0), (9, .ptr 624 0), (10, .v (.int .i64 (i + 1)))]) (H := [(620, .cells [.v (.int .u64 a), .v (.int .u64 b)] 39), (621, .cells [.v (.int .u64 c), .v (.int .u64 e)] 39), (622, .cells [.v (.int .u64 0), .v (.int .u64 0)] 39), (623, .cells (cat [] (cat (arrA aI 64 (upd f ((i).toNat) 2)) [])) 92), (624, .cells (cat [] (cat (arrA aI 64 (qof_s (rwid_s w) c e)) [])) 92)]) (todo' := headAt Tryz.f61 0) Tryz.func61 mixed 400 [(4002, .b true), (6001, .sym ((i).toNat)), (6002, .one (.v (.int .i64 (f ((i).toNat))))), (6004, .sym ((i).toNat)), (6005, .one (.v (.int .i64 ((qof_s (rwid_s w) c e) ((i).toNat))))), (6006, .b true), (7001, .sym ((i).toNat)), (7002, .cls (cat [] (cat (arrA aI 64 (upd f ((i).toNat) 2)) []))), (5001, .as_ (.v (.int .i64 (i + 1))))] (.cons h4002 (.cons (show i = (((i).toNat : Nat) : Int) by omega) (.cons (show (i).toNat < 64 by omega) (.cons (seg_get [] aI 64 f [] ((i).toNat) (by omega)) (.cons (show i = (((i).toNat : Nat) : Int) by omega) (all8 (show (i).toNat < 64 by omega) (seg_get [] aI 64 (qof_s (rwid_s w) c e) [] ((i).toNat) (by omega)) h6006 (show i = (((i).toNat : Nat) : Int) by omega) (show (i).toNat < 64 by omega) (seg_le [] aI 64 f [] ((i).toNat) 2 (by omega)) (seg_set [] aI 64 f [] ((i).toNat) 2 (by omega)) (wr64 (x := i + 1) (by omega)))))))) (by kernel_rfl) ?_
        exact ih (upd f ((i).toNat) 2) (i + 1) (by omega) (by omega)
def qjoi_s (w a b c e : Int) : Int × Int := (qjoi_l0 w a b c e ((rwid_s w - ((0) : Int)).toNat + 1) (qof_s (rwid_s w) a b) 0)
set_option maxRecDepth 100000 in
theorem qjoi_ok (w a b c e : Int)  : Ok Tryz.prog 61 [.v (.int .i64 w), .agg [.v (.int .u64 a), .v (.int .u64 b)], .agg [.v (.int .u64 c), .v (.int .u64 e)]] (look []) (.agg [.v (.int .u64 ((qjoi_s w a b c e).1)), .v (.int .u64 ((qjoi_s w a b c e).2))]) (postOf [] []) := by
  unfold qjoi_s
  have gw := rwid_rng w
  refine ok_head (T := [(6, .ptr 622 0), (7, .v (.int .i64 (rwid_s w))), (8, .ptr 623 0), (9, .ptr 624 0), (10, .v (.int .i64 0))]) (H := [(620, .cells [.v (.int .u64 a), .v (.int .u64 b)] 39), (621, .cells [.v (.int .u64 c), .v (.int .u64 e)] 39), (622, .cells [.v (.int .u64 0), .v (.int .u64 0)] 39), (623, .cells (cat [] (cat (arrA aI 64 (qof_s (rwid_s w) a b)) [])) 92), (624, .cells (cat [] (cat (arrA aI 64 (qof_s (rwid_s w) c e)) [])) 92)]) (todo := headAt Tryz.f61 0) Tryz.func61 rfl rfl mixed 400 [(0, .nm 620), (1, .nm 621), (2, .nm 622), (1001, .call [] [] (.v (.int .i64 (rwid_s w)))), (2002, .call [] [] (.agg (cat [] (cat (arrA aI 64 (qof_s (rwid_s w) a b)) [])))), (2005, .call [] [] (.agg (cat [] (cat (arrA aI 64 (qof_s (rwid_s w) c e)) [])))), (2006, .nm 623), (2007, .nm 624)] (all3 (rwid_ok w ) (qof_ok (rwid_s w) a b ) (qof_ok (rwid_s w) c e )) (by kernel_rfl) ?_
  exact qjoi_lok0 w a b c e _ (qof_s (rwid_s w) a b) 0 (by omega) (Nat.lt_succ_self _)

def qone_s (op a b : Int) : Int := (bif op == (5 : Int) then (bif a == (2 : Int) then (2 : Int) else (IntKind.i64.wrap (1 - a))) else (bif op == (13 : Int) then (bif a == (0 : Int) then (0 : Int) else (bif b == (0 : Int) then (0 : Int) else (bif op == (14 : Int) then (bif a == (1 : Int) then (1 : Int) else (bif b == (1 : Int) then (1 : Int) else (bif a == (2 : Int) then (2 : Int) else (bif b == (2 : Int) then (2 : Int) else (bif op == (15 : Int) then ((IntKind.i64.wrap (a + b)).tmod 2) else a))))) else (bif a == (2 : Int) then (2 : Int) else (bif b == (2 : Int) then (2 : Int) else (bif op == (15 : Int) then ((IntKind.i64.wrap (a + b)).tmod 2) else a)))))) else (bif op == (14 : Int) then (bif a == (1 : Int) then (1 : Int) else (bif b == (1 : Int) then (1 : Int) else (bif a == (2 : Int) then (2 : Int) else (bif b == (2 : Int) then (2 : Int) else (bif op == (15 : Int) then ((IntKind.i64.wrap (a + b)).tmod 2) else a))))) else (bif a == (2 : Int) then (2 : Int) else (bif b == (2 : Int) then (2 : Int) else (bif op == (15 : Int) then ((IntKind.i64.wrap (a + b)).tmod 2) else a))))))
set_option maxRecDepth 100000 in
theorem qone_ok (op a b : Int)  : Ok Tryz.prog 94 [.v (.int .i64 op), .v (.int .i64 a), .v (.int .i64 b)] (look []) (.v (.int .i64 (qone_s op a b))) (postOf [] []) := by
  unfold qone_s
  cases h1001 : (op == (5 : Int))
  · have p1001 := ne_of_beq_false h1001
    cases h5001 : (op == (13 : Int))
    · have p5001 := ne_of_beq_false h5001
      cases h7001 : (op == (14 : Int))
      · have p7001 := ne_of_beq_false h7001
        cases h9001 : (a == (2 : Int))
        · have p9001 := ne_of_beq_false h9001
          cases h9004 : (b == (2 : Int))
          · have p9004 := ne_of_beq_false h9004
            cases h11001 : (op == (15 : Int))
            · have p11001 := ne_of_beq_false h11001
              exact ok_run Tryz.func94 rfl rfl mixed 400 [(1001, .b false), (3001, .b false), (5001, .b false), (7001, .b false), (9001, .b false), (9004, .b false), (11001, .b false)] (all7 h1001 h1001 h5001 h7001 h9001 h9004 h11001) (by kernel_rfl)
            · have p11001 := eq_of_beq h11001
              exact ok_run Tryz.func94 rfl rfl mixed 400 [(1001, .b false), (3001, .b false), (5001, .b false), (7001, .b false), (9001, .b false), (9004, .b false), (11001, .b true)] (all7 h1001 h1001 h5001 h7001 h9001 h9004 h11001) (by kernel_rfl)
          · have p9004 := eq_of_beq h9004
            exact ok_run Tryz.func94 rfl rfl mixed 400 [(1001, .b false), (3001, .b false), (5001, .b false), (7001, .b false), (9001, .b false), (9004, .b true)] (all6 h1001 h1001 h5001 h7001 h9001 h9004) (by kernel_rfl)
        · have p9001 := eq_of_beq h9001
          exact ok_run Tryz.func94 rfl rfl mixed 400 [(1001, .b false), (3001, .b false), (5001, .b false), (7001, .b false), (9001, .b true)] (all5 h1001 h1001 h5001 h7001 h9001) (by kernel_rfl)
      · have p7001 := eq_of_beq h7001
        cases h7004 : (a == (1 : Int))
        · have p7004 := ne_of_beq_false h7004
          cases h7007 : (b == (1 : Int))
          · have p7007 := ne_of_beq_false h7007
            cases h9001 : (a == (2 : Int))
            · have p9001 := ne_of_beq_false h9001
              cases h9004 : (b == (2 : Int))
              · have p9004 := ne_of_beq_false h9004
                cases h11001 : (op == (15 : Int))
                · have p11001 := ne_of_beq_false h11001
                  exact ok_run Tryz.func94 rfl rfl mixed 400 [(1001, .b false), (3001, .b false), (5001, .b false), (7001, .b true), (7004, .b false), (7007, .b false), (9001, .b false), (9004, .b false), (11001, .b false)] (.cons h1001 (all8 h1001 h5001 h7001 h7004 h7007 h9001 h9004 h11001)) (by kernel_rfl)
                · have p11001 := eq_of_beq h11001
                  exact ok_run Tryz.func94 rfl rfl mixed 400 [(1001, .b false), (3001, .b false), (5001, .b false), (7001, .b true), (7004, .b false), (7007, .b false), (9001, .b false), (9004, .b false), (11001, .b true)] (.cons h1001 (all8 h1001 h5001 h7001 h7004 h7007 h9001 h9004 h11001)) (by kernel_rfl)
              · have p9004 := eq_of_beq h9004
                exact ok_run Tryz.func94 rfl rfl mixed 400 [(1001, .b false), (3001, .b false), (5001, .b false), (7001, .b true), (7004, .b false), (7007, .b false), (9001, .b false), (9004, .b true)] (all8 h1001 h1001 h5001 h7001 h7004 h7007 h9001 h9004) (by kernel_rfl)
            · have p9001 := eq_of_beq h9001
              exact ok_run Tryz.func94 rfl rfl mixed 400 [(1001, .b false), (3001, .b false), (5001, .b false), (7001, .b true), (7004, .b false), (7007, .b false), (9001, .b true)] (all7 h1001 h1001 h5001 h7001 h7004 h7007 h9001) (by kernel_rfl)
          · have p7007 := eq_of_beq h7007
            exact ok_run Tryz.func94 rfl rfl mixed 400 [(1001, .b false), (3001, .b false), (5001, .b false), (7001, .b true), (7004, .b false), (7007, .b true)] (all6 h1001 h1001 h5001 h7001 h7004 h7007) (by kernel_rfl)
        · have p7004 := eq_of_beq h7004
          exact ok_run Tryz.func94 rfl rfl mixed 400 [(1001, .b false), (3001, .b false), (5001, .b false), (7001, .b true), (7004, .b true)] (all5 h1001 h1001 h5001 h7001 h7004) (by kernel_rfl)
    · have p5001 := eq_of_beq h5001
      cases h5004 : (a == (0 : Int))
      · have p5004 := ne_of_beq_false h5004
        cases h5007 : (b == (0 : Int))
        · have p5007 := ne_of_beq_false h5007
          cases h7001 : (op == (14 : Int))
          · have p7001 := ne_of_beq_false h7001
            cases h9001 : (a == (2 : Int))
            · have p9001 := ne_of_beq_false h9001
              cases h9004 : (b == (2 : Int))
              · have p9004 := ne_of_beq_false h9004
                cases h11001 : (op == (15 : Int))
                · have p11001 := ne_of_beq_false h11001
                  exact ok_run Tryz.func94 rfl rfl mixed 400 [(1001, .b false), (3001, .b false), (5001, .b true), (5004, .b false), (5007, .b false), (7001, .b false), (9001, .b false), (9004, .b false), (11001, .b false)] (.cons h1001 (all8 h1001 h5001 h5004 h5007 h7001 h9001 h9004 h11001)) (by kernel_rfl)
                · have p11001 := eq_of_beq h11001
                  exact ok_run Tryz.func94 rfl rfl mixed 400 [(1001, .b false), (3001, .b false), (5001, .b true), (5004, .b false), (5007, .b false), (7001, .b false), (9001, .b false), (9004, .b false), (11001, .b true)] (.cons h1001 (all8 h1001 h5001 h5004 h5007 h7001 h9001 h9004 h11001)) (by kernel_rfl)
              · have p9004 := eq_of_beq h9004
                exact ok_run Tryz.func94 rfl rfl mixed 400 [(1001, .b false), (3001, .b false), (5001, .b true), (5004, .b false), (5007, .b false), (7001, .b false), (9001, .b false), (9004, .b true)] (all8 h1001 h1001 h5001 h5004 h5007 h7001 h9001 h9004) (by kernel_rfl)
            · have p9001 := eq_of_beq h9001
              exact ok_run Tryz.func94 rfl rfl mixed 400 [(1001, .b false), (3001, .b false), (5001, .b true), (5004, .b false), (5007, .b false), (7001, .b false), (9001, .b true)] (all7 h1001 h1001 h5001 h5004 h5007 h7001 h9001) (by kernel_rfl)
          · have p7001 := eq_of_beq h7001
            cases h7004 : (a == (1 : Int))
            · have p7004 := ne_of_beq_false h7004
              cases h7007 : (b == (1 : Int))
              · have p7007 := ne_of_beq_false h7007
                cases h9001 : (a == (2 : Int))
                · have p9001 := ne_of_beq_false h9001
                  cases h9004 : (b == (2 : Int))
                  · have p9004 := ne_of_beq_false h9004
                    cases h11001 : (op == (15 : Int))
                    · have p11001 := ne_of_beq_false h11001
                      exact ok_run Tryz.func94 rfl rfl mixed 400 [(1001, .b false), (3001, .b false), (5001, .b true), (5004, .b false), (5007, .b false), (7001, .b true), (7004, .b false), (7007, .b false), (9001, .b false), (9004, .b false), (11001, .b false)] (.cons h1001 (.cons h1001 (.cons h5001 (all8 h5004 h5007 h7001 h7004 h7007 h9001 h9004 h11001)))) (by kernel_rfl)
                    · have p11001 := eq_of_beq h11001
                      exact ok_run Tryz.func94 rfl rfl mixed 400 [(1001, .b false), (3001, .b false), (5001, .b true), (5004, .b false), (5007, .b false), (7001, .b true), (7004, .b false), (7007, .b false), (9001, .b false), (9004, .b false), (11001, .b true)] (.cons h1001 (.cons h1001 (.cons h5001 (all8 h5004 h5007 h7001 h7004 h7007 h9001 h9004 h11001)))) (by kernel_rfl)
                  · have p9004 := eq_of_beq h9004
                    exact ok_run Tryz.func94 rfl rfl mixed 400 [(1001, .b false), (3001, .b false), (5001, .b true), (5004, .b false), (5007, .b false), (7001, .b true), (7004, .b false), (7007, .b false), (9001, .b false), (9004, .b true)] (.cons h1001 (.cons h1001 (all8 h5001 h5004 h5007 h7001 h7004 h7007 h9001 h9004))) (by kernel_rfl)
                · have p9001 := eq_of_beq h9001
                  exact ok_run Tryz.func94 rfl rfl mixed 400 [(1001, .b false), (3001, .b false), (5001, .b true), (5004, .b false), (5007, .b false), (7001, .b true), (7004, .b false), (7007, .b false), (9001, .b true)] (.cons h1001 (all8 h1001 h5001 h5004 h5007 h7001 h7004 h7007 h9001)) (by kernel_rfl)
              · have p7007 := eq_of_beq h7007
                exact ok_run Tryz.func94 rfl rfl mixed 400 [(1001, .b false), (3001, .b false), (5001, .b true), (5004, .b false), (5007, .b false), (7001, .b true), (7004, .b false), (7007, .b true)] (all8 h1001 h1001 h5001 h5004 h5007 h7001 h7004 h7007) (by kernel_rfl)
            · have p7004 := eq_of_beq h7004
              exact ok_run Tryz.func94 rfl rfl mixed 400 [(1001, .b false), (3001, .b false), (5001, .b true), (5004, .b false), (5007, .b false), (7001, .b true), (7004, .b true)] (all7 h1001 h1001 h5001 h5004 h5007 h7001 h7004) (by kernel_rfl)
        · have p5007 := eq_of_beq h5007
          exact ok_run Tryz.func94 rfl rfl mixed 400 [(1001, .b false), (3001, .b false), (5001, .b true), (5004, .b false), (5007, .b true)] (all5 h1001 h1001 h5001 h5004 h5007) (by kernel_rfl)
      · have p5004 := eq_of_beq h5004
        exact ok_run Tryz.func94 rfl rfl mixed 400 [(1001, .b false), (3001, .b false), (5001, .b true), (5004, .b true)] (all4 h1001 h1001 h5001 h5004) (by kernel_rfl)
  · have p1001 := eq_of_beq h1001
    cases h1004 : (a == (2 : Int))
    · have p1004 := ne_of_beq_false h1004
      exact ok_run Tryz.func94 rfl rfl mixed 400 [(1001, .b true), (1004, .b false), (3001, .b true)] (all3 h1001 h1004 h1001) (by kernel_rfl)
    · have p1004 := eq_of_beq h1004
      exact ok_run Tryz.func94 rfl rfl mixed 400 [(1001, .b true), (1004, .b true)] (all2 h1001 h1004) (by kernel_rfl)

def qsum_l0 (op w : Int) (x y : Nat → Int) : Nat → Int → (Nat → Int)
  | 0, _ => default
  | m + 1, i => (bif decide (i < w) then (bif (x ((i).toNat)) != (2 : Int) then (bif (y ((i).toNat)) != (2 : Int) then (qsum_l0 op w x y m (i + 1)) else (bif i == (0 : Int) then qnon_s else (qwrd_s i (rapp_s op i ((qnum_s i x).1) ((qnum_s i y).1))))) else (bif i == (0 : Int) then qnon_s else (qwrd_s i (rapp_s op i ((qnum_s i x).1) ((qnum_s i y).1))))) else (bif i == (0 : Int) then qnon_s else (qwrd_s i (rapp_s op i ((qnum_s i x).1) ((qnum_s i y).1)))))
set_option maxRecDepth 100000 in
theorem qsum_lok0 (op w : Int) (x y : Nat → Int) (hw : 1 ≤ w ∧ w ≤ 64) : ∀ (m : Nat) (i : Int), (0 ≤ i) → (i ≤ w) → (w - (i : Int)).toNat < m → Good Tryz.prog 95 Tryz.f95.ntmps (look []) false (.agg (cat [] (cat (arrA aI 64 (qsum_l0 op w x y m i)) []))) (postOf [] []) (headAt Tryz.f95 0) [(0, .v (.int .i64 op)), (1, .v (.int .i64 w)), (6, .ptr 620 0), (7, .ptr 621 0), (8, .ptr 622 0), (9, .v (.int .i64 i))] [(620, .cells (cat [] (cat (arrA aI 64 x) [])) 92), (621, .cells (cat [] (cat (arrA aI 64 y) [])) 92), (622, .cells (cat [] (cat (arrA aI 64 (fun _ => 0)) [])) 92)] := by
  intro m
  induction m with
  | zero => intro i i0 i1 hm; exact absurd hm (Nat.not_lt_zero _)
  | succ m ih =>
    intro i i0 i1 hm
    rw [qsum_l0]
    cases h2002 : (decide (i < w))
    · have p2002 := of_decide_eq_false h2002
      cases h4001 : (i == (0 : Int))
      · have p4001 := ne_of_beq_false h4001
        exact good_run Tryz.func95 mixed 400 [(2002, .b false), (4001, .b false), (6002, .call [] [] (.tup [.v (.int .u64 ((qnum_s i x).1)), .v (.bool ((qnum_s i x).2))])), (7002, .call [] [] (.tup [.v (.int .u64 ((qnum_s i y).1)), .v (.bool ((qnum_s i y).2))])), (8005, .call [] [] (.v (.int .u64 (rapp_s op i ((qnum_s i x).1) ((qnum_s i y).1))))), (8006, .call [] [] (.agg (cat [] (cat (arrA aI 64 (qwrd_s i (rapp_s op i ((qnum_s i x).1) ((qnum_s i y).1)))) []))))] (all6 h2002 h4001 (qnum_ok i x (by omega)) (qnum_ok i y (by omega)) (rapp_ok op i ((qnum_s i x).1) ((qnum_s i y).1) ) (qwrd_ok i (rapp_s op i ((qnum_s i x).1) ((qnum_s i y).1)) (by omega))) (by kernel_rfl)
      · have p4001 := eq_of_beq h4001
        exact good_run Tryz.func95 mixed 400 [(2002, .b false), (4001, .b true), (5000, .call [] [] (.agg (cat [] (cat (arrA aI 64 qnon_s) []))))] (all3 h2002 h4001 qnon_ok) (by kernel_rfl)
    · have p2002 := of_decide_eq_true h2002
      cases h2007 : ((x ((i).toNat)) != (2 : Int))
      · have p2007 := bne_eq_false_iff_eq.1 h2007
        cases h4001 : (i == (0 : Int))
        · have p4001 := ne_of_beq_false h4001
          exact good_run Tryz.func95 mixed 400 [(2002, .b true), (2005, .sym ((i).toNat)), (2006, .one (.v (.int .i64 (x ((i).toNat))))), (2007, .b false), (4001, .b false), (6002, .call [] [] (.tup [.v (.int .u64 ((qnum_s i x).1)), .v (.bool ((qnum_s i x).2))])), (7002, .call [] [] (.tup [.v (.int .u64 ((qnum_s i y).1)), .v (.bool ((qnum_s i y).2))])), (8005, .call [] [] (.v (.int .u64 (rapp_s op i ((qnum_s i x).1) ((qnum_s i y).1))))), (8006, .call [] [] (.agg (cat [] (cat (arrA aI 64 (qwrd_s i (rapp_s op i ((qnum_s i x).1) ((qnum_s i y).1)))) []))))] (.cons h2002 (.cons (show i = (((i).toNat : Nat) : Int) by omega) (all8 (show (i).toNat < 64 by omega) (seg_get [] aI 64 x [] ((i).toNat) (by omega)) h2007 h4001 (qnum_ok i x (by omega)) (qnum_ok i y (by omega)) (rapp_ok op i ((qnum_s i x).1) ((qnum_s i y).1) ) (qwrd_ok i (rapp_s op i ((qnum_s i x).1) ((qnum_s i y).1)) (by omega))))) (by kernel_rfl)
        · have p4001 := eq_of_beq h4001
          exact good_run Tryz.func95 mixed 400 [(2002, .b true), (2005, .sym ((i).toNat)), (2006, .one (.v (.int .i64 (x ((i).toNat))))), (2007, .b false), (4001, .b true), (5000, .call [] [] (.agg (cat [] (cat (arrA aI 64 qnon_s) []))))] (all7 h2002 (show i = (((i).toNat : Nat) : Int) by omega) (show (i).toNat < 64 by omega) (seg_get [] aI 64 x [] ((i).toNat) (by omega)) h2007 h4001 qnon_ok) (by kernel_rfl)
      · have p2007 := bne_iff_ne.1 h2007
        cases h2013 : ((y ((i).toNat)) != (2 : Int))
        · have p2013 := bne_eq_false_iff_eq.1 h2013
          cases h4001 : (i == (0 : Int))
          · have p4001 := ne_of_beq_false h4001
            exact good_run Tryz.func95 mixed 400 [(2002, .b true), (2005, .sym ((i).toNat)), (2006, .one (.v (.int .i64 (x ((i).toNat))))), (2007, .b true), (2011, .sym ((i).toNat)), (2012, .one (.v (.int .i64 (y ((i).toNat))))), (2013, .b false), (4001, .b false), (6002, .call [] [] (.tup [.v (.int .u64 ((qnum_s i x).1)), .v (.bool ((qnum_s i x).2))])), (7002, .call [] [] (.tup [.v (.int .u64 ((qnum_s i y).1)), .v (.bool ((qnum_s i y).2))])), (8005, .call [] [] (.v (.int .u64 (rapp_s op i ((qnum_s i x).1) ((qnum_s i y).1))))), (8006, .call [] [] (.agg (cat [] (cat (arrA aI 64 (qwrd_s i (rapp_s op i ((qnum_s i x).1) ((qnum_s i y).1)))) []))))] (.cons h2002 (.cons (show i = (((i).toNat : Nat) : Int) by omega) (.cons (show (i).toNat < 64 by omega) (.cons (seg_get [] aI 64 x [] ((i).toNat) (by omega)) (.cons h2007 (.cons (show i = (((i).toNat : Nat) : Int) by omega) (all8 (show (i).toNat < 64 by omega) (seg_get [] aI 64 y [] ((i).toNat) (by omega)) h2013 h4001 (qnum_ok i x (by omega)) (qnum_ok i y (by omega)) (rapp_ok op i ((qnum_s i x).1) ((qnum_s i y).1) ) (qwrd_ok i (rapp_s op i ((qnum_s i x).1) ((qnum_s i y).1)) (by omega))))))))) (by kernel_rfl)
          · have p4001 := eq_of_beq h4001
            exact good_run Tryz.func95 mixed 400 [(2002, .b true), (2005, .sym ((i).toNat)), (2006, .one (.v (.int .i64 (x ((i).toNat))))), (2007, .b true), (2011, .sym ((i).toNat)), (2012, .one (.v (.int .i64 (y ((i).toNat))))), (2013, .b false), (4001, .b true), (5000, .call [] [] (.agg (cat [] (cat (arrA aI 64 qnon_s) []))))] (.cons h2002 (.cons (show i = (((i).toNat : Nat) : Int) by omega) (.cons (show (i).toNat < 64 by omega) (all8 (seg_get [] aI 64 x [] ((i).toNat) (by omega)) h2007 (show i = (((i).toNat : Nat) : Int) by omega) (show (i).toNat < 64 by omega) (seg_get [] aI 64 y [] ((i).toNat) (by omega)) h2013 h4001 qnon_ok)))) (by kernel_rfl)
        · have p2013 := bne_iff_ne.1 h2013
          refine good_head (T := [(0, .v (.int .i64 op)), (1, .v (.int .i64 w)), (6, .ptr 620 0), (7, .ptr 621 0), (8, .ptr 622 0), (9, .v (.int .i64 (i + 1)))]) (H := [(620, .cells (cat [] (cat (arrA aI 64 x) [])) 92), (621, .cells (cat [] (cat (arrA aI 64 y) [])) 92), (622, .cells (cat [] (cat (arrA aI 64 (fun _ => 0)) [])) 92)]) (todo' := headAt Tryz.f95 0) Tryz.func95 mixed 400 [(2002, .b true), (2005, .sym ((i).toNat)), (2006, .one (.v (.int .i64 (x ((i).toNat))))), (2007, .b true), (2011, .sym ((i).toNat)), (2012, .one (.v (.int .i64 (y ((i).toNat))))), (2013, .b true), (3001, .as_ (.v (.int .i64 (i + 1))))] (.cons h2002 (.cons (show i = (((i).toNat : Nat) : Int) by omega) (all8 (show (i).toNat < 64 by omega) (seg_get [] aI 64 x [] ((i).toNat) (by omega)) h2007 (show i = (((i).toNat : Nat) : Int) by omega) (show (i).toNat < 64 by omega) (seg_get [] aI 64 y [] ((i).toNat) (by omega)) h2013 (wr64 (x := i + 1) (by omega))))) (by kernel_rfl) ?_
          exact ih (i + 1) (by omega) (by omega) (by omega)
def qsum_s (op w : Int) (x y : Nat → Int) : (Nat → Int) := (qsum_l0 op w x y ((w - ((0) : Int)).toNat + 1) 0)
set_option maxRecDepth 100000 in
theorem qsum_ok (op w : Int) (x y : Nat → Int) (hw : 1 ≤ w ∧ w ≤ 64) : Ok Tryz.prog 95 [.v (.int .i64 op), .v (.int .i64 w), .agg (cat [] (cat (arrA aI 64 x) [])), .agg (cat [] (cat (arrA aI 64 y) []))] (look []) (.agg (cat [] (cat (arrA aI 64 (qsum_s op w x y)) []))) (postOf [] []) := by
  unfold qsum_s
  refine ok_head (T := [(0, .v (.int .i64 op)), (1, .v (.int .i64 w)), (6, .ptr 620 0), (7, .ptr 621 0), (8, .ptr 622 0), (9, .v (.int .i64 0))]) (H := [(620, .cells (cat [] (cat (arrA aI 64 x) [])) 92), (621, .cells (cat [] (cat (arrA aI 64 y) [])) 92), (622, .cells (cat [] (cat (arrA aI 64 (fun _ => 0)) [])) 92)]) (todo := headAt Tryz.f95 0) Tryz.func95 rfl rfl mixed 400 [(0, .nm 620), (1, .nm 621), (2, .nm 622)] (all0) (by kernel_rfl) ?_
  exact qsum_lok0 op w x y hw _ 0 (by omega) (by omega) (Nat.lt_succ_self _)
end Go.Proofs.YtdfifogicefkjaaGreatDoor.Sx.M5
