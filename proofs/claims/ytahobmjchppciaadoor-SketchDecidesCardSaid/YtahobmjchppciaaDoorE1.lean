/- What the functions of a chapter compute, as contracts; written by a program of this session. -/
import Derived.Test.YtahobmjchppciaaDoorN2
open Go Go.Proofs Go.RowKit
namespace Go.Proofs.YtahobmjchppciaaDoor.Sx.M5
set_option linter.unusedVariables false
set_option linter.unusedSimpArgs false
theorem rapp_pre : True := trivial
def eb (x : Int) : List Value := [.int .u8 x]
def eu (x : Int) : List Value := [.int .u64 x]
/-- An environment. -/
structure Ev where
  inp : List Int
  regs : Nat → Int
  mem : List Int
theorem u_nil : ∀ j, U64 (([] : List Int).getD j 0) := fun _ => ⟨Int.le_refl 0, (by decide : (0 : Int) < 18446744073709551616)⟩
theorem u_app {v : List Int} {x : Int} (h : ∀ j, U64 (v.getD j 0)) (hx : U64 x) : ∀ j, U64 ((v ++ [x]).getD j 0) := by
  intro j
  have := h j
  rw [List.getD_eq_getElem?_getD] at *
  by_cases c : j < v.length
  · rwa [List.getElem?_append_left c]
  · rw [List.getElem?_append_right (by omega)]
    by_cases e : j = v.length
    · rw [e, Nat.sub_self]; exact hx
    · rw [List.getElem?_eq_none (by simp; omega)]
      exact ⟨Int.le_refl 0, (by decide : (0 : Int) < 18446744073709551616)⟩
theorem uq {l : List Nd} {v : List Int} {i : Nat} (hv : NdsOk l) (hi : i < l.length) (ho : v.length = i) : 5 ≤ (l.getD i default).op → ∀ m, m < 3 → 0 ≤ (l.getD i default).k m ∧ (l.getD i default).k m < v.length := fun h5 m hm => by
  rw [ho]; exact (hv i hi).k h5 m hm

def at07_s (b : List Int) (k : Int) : Int := (bif decide (k < (IntKind.u64.wrap ((b.length : Int)))) then (b.getD ((k).toNat) 0) else (0 : Int))
set_option maxRecDepth 100000 in
theorem at07_ok (b : List Int) (k : Int) (hk : 0 ≤ k) (hb : b.length < 2 ^ 40) : Ok Tryd.prog 31 [.ro 1 b.length ((b).map eb), .v (.int .u64 k)] (look []) (.v (.int .u8 (at07_s b k))) (postOf [] []) := by
  unfold at07_s
  cases h1004 : (decide (k < (IntKind.u64.wrap ((b.length : Int)))))
  · have p1004 := of_decide_eq_false h1004
    exact ok_run Tryd.func31 rfl rfl mixed 400 [(1004, .b false)] (all1 h1004) (by kernel_rfl)
  · have p1004 := of_decide_eq_true h1004
    exact ok_run Tryd.func31 rfl rfl mixed 400 [(1004, .b true), (2002, .el (eb (b.getD ((k).toNat) 0)))] (all3 h1004 (show (0 : Int) ≤ k by omega) (getg (l := b) (n := (k).toNat) eb 0 (by (simp only [wrap_u64] at * <;> omega)))) (by kernel_rfl)

def get_l0 (l : List Nd) (v : List Int) (e : Ev) (r a : Int) : Nat → Int → Int
  | 0, _ => default
  | m + 1, arr => (bif ((l.getD ((arr).toNat) default).op) == (24 : Int) then (bif (v.getD ((((l.getD ((arr).toNat) default).k) 1).toNat) 0) == a then (IntKind.u8.wrap ((v.getD ((((l.getD ((arr).toNat) default).k) 2).toNat) 0))) else (get_l0 l v e r a m (((l.getD ((arr).toNat) default).k) 0))) else (bif ((l.getD ((arr).toNat) default).op) == (3 : Int) then (at07_s e.mem a) else (0 : Int)))
set_option maxRecDepth 100000 in
theorem get_lok0 (l : List Nd) (v : List Int) (e : Ev) (r a : Int) (hv : NdsOk l) (h0 : 0 ≤ r) (h1 : r < l.length) (h2 : r ≤ v.length) (hm : e.mem.length < 2 ^ 40) (ha : 0 ≤ a) : ∀ (m : Nat) (arr : Int), (0 ≤ arr) → (arr < l.length) → (arr ≤ v.length) → (arr : Int).toNat < m → Good Tryd.prog 32 Tryd.f32.ntmps (look [(871, .row 1 24 v.length ((v).map eu))]) false (.v (.int .u8 (get_l0 l v e r a m arr))) (postOf [(871, .row 1 24 v.length ((v).map eu))] []) (headAt Tryd.f32 0) [(0, .ro 6 l.length ((l).map eNd)), (1, .own 871), (3, .v (.int .i64 arr)), (4, .v (.int .u64 a)), (7, .ptr 901 0), (10, .v (.int .u8 0))] [(871, .row 1 24 v.length ((v).map eu)), (901, .cells (cat [.ro 1 e.inp.length ((e.inp).map eb)] (cat (arrA aU 8 e.regs) [.ro 1 e.mem.length ((e.mem).map eb)])) 27)] := by
  intro m
  induction m with
  | zero => intro arr h0 h1 h2 hm; exact absurd hm (Nat.not_lt_zero _)
  | succ m ih =>
    intro arr h0 h1 h2 hm
    rw [get_l0]
    have qk : (l.getD (arr).toNat default).op = 24 → ∀ m, m < 3 → 0 ≤ (l.getD (arr).toNat default).k m ∧ (l.getD (arr).toNat default).k m < ((arr).toNat : Nat) := fun h => (hv arr.toNat (by omega)).k (by omega)
    have qa := fun h => qk h 0 (by decide); have qb := fun h => qk h 1 (by decide); have qc := fun h => qk h 2 (by decide)
    cases h1005 : (((l.getD ((arr).toNat) default).op) == (24 : Int))
    · have p1005 := ne_of_beq_false h1005
      cases h5005 : (((l.getD ((arr).toNat) default).op) == (3 : Int))
      · have p5005 := ne_of_beq_false h5005
        exact good_run Tryd.func32 mixed 400 [(1002, .el (eNd (l.getD ((arr).toNat) default))), (1005, .b false), (5002, .el (eNd (l.getD ((arr).toNat) default))), (5005, .b false)] (all6 (show (0 : Int) ≤ arr by omega) (getg (l := l) (n := (arr).toNat) eNd default (by omega)) h1005 (show (0 : Int) ≤ arr by omega) (getg (l := l) (n := (arr).toNat) eNd default (by omega)) h5005) (by kernel_rfl)
      · have p5005 := eq_of_beq h5005
        exact good_run Tryd.func32 mixed 400 [(1002, .el (eNd (l.getD ((arr).toNat) default))), (1005, .b false), (5002, .el (eNd (l.getD ((arr).toNat) default))), (5005, .b true), (6003, .call [] [] (.v (.int .u8 (at07_s e.mem a))))] (all7 (show (0 : Int) ≤ arr by omega) (getg (l := l) (n := (arr).toNat) eNd default (by omega)) h1005 (show (0 : Int) ≤ arr by omega) (getg (l := l) (n := (arr).toNat) eNd default (by omega)) h5005 (at07_ok e.mem a (by omega) (by omega))) (by kernel_rfl)
    · have p1005 := eq_of_beq h1005
      cases h2010 : ((v.getD ((((l.getD ((arr).toNat) default).k) 1).toNat) 0) == a)
      · have p2010 := ne_of_beq_false h2010
        refine good_head (T := [(0, .ro 6 l.length ((l).map eNd)), (1, .own 871), (3, .v (.int .i64 (((l.getD ((arr).toNat) default).k) 0))), (4, .v (.int .u64 a)), (7, .ptr 901 0), (10, .v (.int .u8 0))]) (H := [(871, .row 1 24 v.length ((v).map eu)), (901, .cells (cat [.ro 1 e.inp.length ((e.inp).map eb)] (cat (arrA aU 8 e.regs) [.ro 1 e.mem.length ((e.mem).map eb)])) 27)]) (todo' := headAt Tryd.f32 0) Tryd.func32 mixed 400 [(1002, .el (eNd (l.getD ((arr).toNat) default))), (1005, .b true), (2003, .el (eNd (l.getD ((arr).toNat) default))), (2008, .el (eu (v.getD ((((l.getD ((arr).toNat) default).k) 1).toNat) 0))), (2010, .b false), (4002, .el (eNd (l.getD ((arr).toNat) default)))] (.cons (show (0 : Int) ≤ arr by omega) (.cons (getg (l := l) (n := (arr).toNat) eNd default (by omega)) (.cons h1005 (all8 (show (0 : Int) ≤ arr by omega) (getg (l := l) (n := (arr).toNat) eNd default (by omega)) (show (0 : Int) ≤ ((l.getD ((arr).toNat) default).k) 1 by omega) (show (((l.getD ((arr).toNat) default).k) 1 : Int) < v.length by omega) (getg (l := v) (n := (((l.getD ((arr).toNat) default).k) 1).toNat) eu 0 (by omega)) h2010 (show (0 : Int) ≤ arr by omega) (getg (l := l) (n := (arr).toNat) eNd default (by omega)))))) (by kernel_rfl) ?_
        exact ih (((l.getD ((arr).toNat) default).k) 0) (by omega) (by omega) (by omega) (by omega)
      · have p2010 := eq_of_beq h2010
        exact good_run Tryd.func32 mixed 400 [(1002, .el (eNd (l.getD ((arr).toNat) default))), (1005, .b true), (2003, .el (eNd (l.getD ((arr).toNat) default))), (2008, .el (eu (v.getD ((((l.getD ((arr).toNat) default).k) 1).toNat) 0))), (2010, .b true), (3003, .el (eNd (l.getD ((arr).toNat) default))), (3008, .el (eu (v.getD ((((l.getD ((arr).toNat) default).k) 2).toNat) 0)))] (.cons (show (0 : Int) ≤ arr by omega) (.cons (getg (l := l) (n := (arr).toNat) eNd default (by omega)) (.cons h1005 (.cons (show (0 : Int) ≤ arr by omega) (.cons (getg (l := l) (n := (arr).toNat) eNd default (by omega)) (.cons (show (0 : Int) ≤ ((l.getD ((arr).toNat) default).k) 1 by omega) (all8 (show (((l.getD ((arr).toNat) default).k) 1 : Int) < v.length by omega) (getg (l := v) (n := (((l.getD ((arr).toNat) default).k) 1).toNat) eu 0 (by omega)) h2010 (show (0 : Int) ≤ arr by omega) (getg (l := l) (n := (arr).toNat) eNd default (by omega)) (show (0 : Int) ≤ ((l.getD ((arr).toNat) default).k) 2 by omega) (show (((l.getD ((arr).toNat) default).k) 2 : Int) < v.length by omega) (getg (l := v) (n := (((l.getD ((arr).toNat) default).k) 2).toNat) eu 0 (by omega))))))))) (by kernel_rfl)
def get_s (l : List Nd) (v : List Int) (e : Ev) (r a : Int) : Int := (get_l0 l v e r a (((r) : Int).toNat + 1) r)
set_option maxRecDepth 100000 in
theorem get_ok (l : List Nd) (v : List Int) (e : Ev) (r a : Int) (hv : NdsOk l) (h0 : 0 ≤ r) (h1 : r < l.length) (h2 : r ≤ v.length) (hm : e.mem.length < 2 ^ 40) (ha : 0 ≤ a) : Ok Tryd.prog 32 [.ro 6 l.length ((l).map eNd), .own 871, .agg (cat [.ro 1 e.inp.length ((e.inp).map eb)] (cat (arrA aU 8 e.regs) [.ro 1 e.mem.length ((e.mem).map eb)])), .v (.int .i64 r), .v (.int .u64 a)] (look [(871, .row 1 24 v.length ((v).map eu))]) (.v (.int .u8 (get_s l v e r a))) (postOf [(871, .row 1 24 v.length ((v).map eu))] []) := by
  unfold get_s
  have qk : (l.getD (r).toNat default).op = 24 → ∀ m, m < 3 → 0 ≤ (l.getD (r).toNat default).k m ∧ (l.getD (r).toNat default).k m < ((r).toNat : Nat) := fun h => (hv r.toNat (by omega)).k (by omega)
  have qa := fun h => qk h 0 (by decide); have qb := fun h => qk h 1 (by decide); have qc := fun h => qk h 2 (by decide)
  refine ok_head (T := [(0, .ro 6 l.length ((l).map eNd)), (1, .own 871), (3, .v (.int .i64 r)), (4, .v (.int .u64 a)), (7, .ptr 901 0), (10, .v (.int .u8 0))]) (H := [(871, .row 1 24 v.length ((v).map eu)), (901, .cells (cat [.ro 1 e.inp.length ((e.inp).map eb)] (cat (arrA aU 8 e.regs) [.ro 1 e.mem.length ((e.mem).map eb)])) 27)]) (todo := headAt Tryd.f32 0) Tryd.func32 rfl rfl mixed 400 [(0, .nm 901)] (all0) (by kernel_rfl) ?_
  exact get_lok0 l v e r a hv h0 h1 h2 hm ha _ r (by omega) (by omega) (by omega) (Nat.lt_succ_self _)

def one_s (l : List Nd) (v : List Int) (e : Ev) (x : Nd) : Int := (bif x.op == (0 : Int) then x.n else (bif x.op == (1 : Int) then (IntKind.u64.wrap ((at07_s e.inp x.n))) else (bif x.op == (2 : Int) then (e.regs ((x.n).toNat)) else (bif x.op == (3 : Int) then (0 : Int) else (bif x.op == (4 : Int) then (0 : Int) else (bif x.op == (24 : Int) then (0 : Int) else (bif x.op == (6 : Int) then (v.getD ((x.k 0).toNat) 0) else (bif x.op == (7 : Int) then ((v.getD ((x.k 0).toNat) 0).tmod 256) else (bif x.op == (22 : Int) then (bif (v.getD ((x.k 0).toNat) 0) == (1 : Int) then (v.getD ((x.k 1).toNat) 0) else (v.getD ((x.k 2).toNat) 0)) else (bif x.op == (23 : Int) then (IntKind.u64.wrap ((get_s l v e (x.k 0) (v.getD ((x.k 1).toNat) 0)))) else (rapp_s x.op ((l.getD ((x.k 0).toNat) default).w) (v.getD ((x.k 0).toNat) 0) (v.getD ((x.k 1).toNat) 0))))))))))))
set_option maxRecDepth 100000 in
theorem one_ok (l : List Nd) (v : List Int) (e : Ev) (x : Nd) (hv : NdsOk l) (ho : 0 ≤ x.op ∧ x.op ≤ 24) (q : 5 ≤ x.op → ∀ m, m < 3 → 0 ≤ x.k m ∧ x.k m < v.length) (h2 : v.length ≤ l.length) (n2 : x.op = 2 → x.n < 8) (hn : U64 x.n) (hu : ∀ j, U64 (v.getD j 0)) (he : e.inp.length < 2 ^ 40 ∧ e.mem.length < 2 ^ 40) : Ok Tryd.prog 15 [.ro 6 l.length ((l).map eNd), .own 871, .agg (cat [.ro 1 e.inp.length ((e.inp).map eb)] (cat (arrA aU 8 e.regs) [.ro 1 e.mem.length ((e.mem).map eb)])), .agg (cat [.v (.int .i64 x.op), .v (.int .i64 x.w), .v (.int .u64 x.n)] (cat (arrA aI 3 x.k) []))] (look [(871, .row 1 24 v.length ((v).map eu))]) (.v (.int .u64 (one_s l v e x))) (postOf [(871, .row 1 24 v.length ((v).map eu))] []) := by
  unfold one_s
  have q0 := fun h => q h 0 (by decide); have q1 := fun h => q h 1 (by decide); have q2 := fun h => q h 2 (by decide)
  have hu1 := hu (x.k 1).toNat; have he1 := he.1; have he2 := he.2; have hn1 := hn.1
  cases h2000 : (x.op == (0 : Int))
  · have p2000 := ne_of_beq_false h2000
    cases h4000 : (x.op == (1 : Int))
    · have p4000 := ne_of_beq_false h4000
      cases h6000 : (x.op == (2 : Int))
      · have p6000 := ne_of_beq_false h6000
        cases h8000 : (x.op == (3 : Int))
        · have p8000 := ne_of_beq_false h8000
          cases h9000 : (x.op == (4 : Int))
          · have p9000 := ne_of_beq_false h9000
            cases h10000 : (x.op == (24 : Int))
            · have p10000 := ne_of_beq_false h10000
              cases h12000 : (x.op == (6 : Int))
              · have p12000 := ne_of_beq_false h12000
                cases h14000 : (x.op == (7 : Int))
                · have p14000 := ne_of_beq_false h14000
                  cases h16000 : (x.op == (22 : Int))
                  · have p16000 := ne_of_beq_false h16000
                    cases h20000 : (x.op == (23 : Int))
                    · have p20000 := ne_of_beq_false h20000
                      exact ok_run Tryd.func15 rfl rfl mixed 400 [(0, .nm 901), (1, .nm 902), (2000, .b false), (4000, .b false), (6000, .b false), (8000, .b false), (9000, .b false), (10000, .b false), (12000, .b false), (14000, .b false), (16000, .b false), (20000, .b false), (22006, .el (eNd (l.getD ((x.k 0).toNat) default))), (22014, .el (eu (v.getD ((x.k 0).toNat) 0))), (22020, .el (eu (v.getD ((x.k 1).toNat) 0))), (22021, .call [] [] (.v (.int .u64 (rapp_s x.op ((l.getD ((x.k 0).toNat) default).w) (v.getD ((x.k 0).toNat) 0) (v.getD ((x.k 1).toNat) 0)))))] (.cons h2000 (.cons h4000 (.cons h6000 (.cons h8000 (.cons h9000 (.cons h10000 (.cons h12000 (.cons h14000 (.cons h16000 (.cons h20000 (.cons (show (0 : Int) ≤ x.k 0 by omega) (all8 (getg (l := l) (n := (x.k 0).toNat) eNd default (by omega)) (show (0 : Int) ≤ x.k 0 by omega) (show (x.k 0 : Int) < v.length by omega) (getg (l := v) (n := (x.k 0).toNat) eu 0 (by omega)) (show (0 : Int) ≤ x.k 1 by omega) (show (x.k 1 : Int) < v.length by omega) (getg (l := v) (n := (x.k 1).toNat) eu 0 (by omega)) (rapp_ok x.op ((l.getD ((x.k 0).toNat) default).w) (v.getD ((x.k 0).toNat) 0) (v.getD ((x.k 1).toNat) 0) ))))))))))))) (by kernel_rfl)
                    · have p20000 := eq_of_beq h20000
                      exact ok_run Tryd.func15 rfl rfl mixed 400 [(0, .nm 901), (1, .nm 902), (2000, .b false), (4000, .b false), (6000, .b false), (8000, .b false), (9000, .b false), (10000, .b false), (12000, .b false), (14000, .b false), (16000, .b false), (20000, .b true), (21011, .el (eu (v.getD ((x.k 1).toNat) 0))), (21012, .call [871] [] (.v (.int .u8 (get_s l v e (x.k 0) (v.getD ((x.k 1).toNat) 0)))))] (.cons h2000 (.cons h4000 (.cons h6000 (.cons h8000 (.cons h9000 (.cons h10000 (all8 h12000 h14000 h16000 h20000 (show (0 : Int) ≤ x.k 1 by omega) (show (x.k 1 : Int) < v.length by omega) (getg (l := v) (n := (x.k 1).toNat) eu 0 (by omega)) (get_ok l v e (x.k 0) (v.getD ((x.k 1).toNat) 0) hv (by omega) (by omega) (by omega) he.2 (by omega))))))))) (by kernel_rfl)
                  · have p16000 := eq_of_beq h16000
                    cases h17006 : ((v.getD ((x.k 0).toNat) 0) == (1 : Int))
                    · have p17006 := ne_of_beq_false h17006
                      exact ok_run Tryd.func15 rfl rfl mixed 400 [(0, .nm 901), (1, .nm 902), (2000, .b false), (4000, .b false), (6000, .b false), (8000, .b false), (9000, .b false), (10000, .b false), (12000, .b false), (14000, .b false), (16000, .b true), (17005, .el (eu (v.getD ((x.k 0).toNat) 0))), (17006, .b false), (19005, .el (eu (v.getD ((x.k 2).toNat) 0)))] (.cons h2000 (.cons h4000 (.cons h6000 (.cons h8000 (.cons h9000 (.cons h10000 (.cons h12000 (.cons h14000 (all8 h16000 (show (0 : Int) ≤ x.k 0 by omega) (show (x.k 0 : Int) < v.length by omega) (getg (l := v) (n := (x.k 0).toNat) eu 0 (by omega)) h17006 (show (0 : Int) ≤ x.k 2 by omega) (show (x.k 2 : Int) < v.length by omega) (getg (l := v) (n := (x.k 2).toNat) eu 0 (by omega))))))))))) (by kernel_rfl)
                    · have p17006 := eq_of_beq h17006
                      exact ok_run Tryd.func15 rfl rfl mixed 400 [(0, .nm 901), (1, .nm 902), (2000, .b false), (4000, .b false), (6000, .b false), (8000, .b false), (9000, .b false), (10000, .b false), (12000, .b false), (14000, .b false), (16000, .b true), (17005, .el (eu (v.getD ((x.k 0).toNat) 0))), (17006, .b true), (18005, .el (eu (v.getD ((x.k 1).toNat) 0)))] (.cons h2000 (.cons h4000 (.cons h6000 (.cons h8000 (.cons h9000 (.cons h10000 (.cons h12000 (.cons h14000 (all8 h16000 (show (0 : Int) ≤ x.k 0 by omega) (show (x.k 0 : Int) < v.length by omega) (getg (l := v) (n := (x.k 0).toNat) eu 0 (by omega)) h17006 (show (0 : Int) ≤ x.k 1 by omega) (show (x.k 1 : Int) < v.length by omega) (getg (l := v) (n := (x.k 1).toNat) eu 0 (by omega))))))))))) (by kernel_rfl)
                · have p14000 := eq_of_beq h14000
                  exact ok_run Tryd.func15 rfl rfl mixed 400 [(0, .nm 901), (1, .nm 902), (2000, .b false), (4000, .b false), (6000, .b false), (8000, .b false), (9000, .b false), (10000, .b false), (12000, .b false), (14000, .b true), (15005, .el (eu (v.getD ((x.k 0).toNat) 0)))] (.cons h2000 (.cons h4000 (.cons h6000 (all8 h8000 h9000 h10000 h12000 h14000 (show (0 : Int) ≤ x.k 0 by omega) (show (x.k 0 : Int) < v.length by omega) (getg (l := v) (n := (x.k 0).toNat) eu 0 (by omega)))))) (by kernel_rfl)
              · have p12000 := eq_of_beq h12000
                exact ok_run Tryd.func15 rfl rfl mixed 400 [(0, .nm 901), (1, .nm 902), (2000, .b false), (4000, .b false), (6000, .b false), (8000, .b false), (9000, .b false), (10000, .b false), (12000, .b true), (13005, .el (eu (v.getD ((x.k 0).toNat) 0)))] (.cons h2000 (.cons h4000 (all8 h6000 h8000 h9000 h10000 h12000 (show (0 : Int) ≤ x.k 0 by omega) (show (x.k 0 : Int) < v.length by omega) (getg (l := v) (n := (x.k 0).toNat) eu 0 (by omega))))) (by kernel_rfl)
            · have p10000 := eq_of_beq h10000
              exact ok_run Tryd.func15 rfl rfl mixed 400 [(0, .nm 901), (1, .nm 902), (2000, .b false), (4000, .b false), (6000, .b false), (8000, .b false), (9000, .b false), (10000, .b true)] (all6 h2000 h4000 h6000 h8000 h9000 h10000) (by kernel_rfl)
          · have p9000 := eq_of_beq h9000
            exact ok_run Tryd.func15 rfl rfl mixed 400 [(0, .nm 901), (1, .nm 902), (2000, .b false), (4000, .b false), (6000, .b false), (8000, .b false), (9000, .b true)] (all5 h2000 h4000 h6000 h8000 h9000) (by kernel_rfl)
        · have p8000 := eq_of_beq h8000
          exact ok_run Tryd.func15 rfl rfl mixed 400 [(0, .nm 901), (1, .nm 902), (2000, .b false), (4000, .b false), (6000, .b false), (8000, .b true)] (all4 h2000 h4000 h6000 h8000) (by kernel_rfl)
      · have p6000 := eq_of_beq h6000
        exact ok_run Tryd.func15 rfl rfl mixed 400 [(0, .nm 901), (1, .nm 902), (2000, .b false), (4000, .b false), (6000, .b true), (7003, .sym ((x.n).toNat)), (7004, .one (.v (.int .u64 (e.regs ((x.n).toNat)))))] (all6 h2000 h4000 h6000 (show x.n = (((x.n).toNat : Nat) : Int) by omega) (show (x.n).toNat < 8 by omega) (seg_get [.ro 1 e.inp.length ((e.inp).map eb)] aU 8 e.regs [.ro 1 e.mem.length ((e.mem).map eb)] ((x.n).toNat) (by omega))) (by kernel_rfl)
    · have p4000 := eq_of_beq h4000
      exact ok_run Tryd.func15 rfl rfl mixed 400 [(0, .nm 901), (1, .nm 902), (2000, .b false), (4000, .b true), (5004, .call [] [] (.v (.int .u8 (at07_s e.inp x.n))))] (all3 h2000 h4000 (at07_ok e.inp x.n (by omega) (by omega))) (by kernel_rfl)
  · have p2000 := eq_of_beq h2000
    exact ok_run Tryd.func15 rfl rfl mixed 400 [(0, .nm 901), (1, .nm 902), (2000, .b true)] (all1 h2000) (by kernel_rfl)
end Go.Proofs.YtahobmjchppciaaDoor.Sx.M5
/- What the functions of a chapter compute, as contracts; written by a program of this session. -/
open Go Go.Proofs Go.RowKit
namespace Go.Proofs.YtahobmjchppciaaDoor.Sx.M5
set_option linter.unusedVariables false
set_option linter.unusedSimpArgs false
theorem bifU {b : Bool} {x y : Int} (hx : U64 x) (hy : U64 y) : U64 (bif b then x else y) := by cases b <;> assumption
theorem z_U : U64 (0 : Int) := ⟨Int.le_refl 0, (by decide : (0 : Int) < 18446744073709551616)⟩
theorem rapp_rng (op w x y : Int) : U64 (rapp_s op w x y) := by
  unfold rapp_s
  repeat' (first | with_reducible apply bifU | with_reducible exact rnum_rng _ | with_reducible exact z_U)
theorem mod_U {z : Int} (h : U64 z) : U64 (z.tmod 256) := by
  rw [Int.tmod_eq_emod_of_nonneg h.1]
  have := h
  exact ⟨by omega, by omega⟩
theorem one_rng {l : List Nd} {v : List Int} {e : Ev} {x : Nd} (hn : U64 x.n) (hu : ∀ j, U64 (v.getD j 0)) (hr : ∀ j, U64 (e.regs j)) : U64 (one_s l v e x) := by
  unfold one_s
  repeat' (first | with_reducible apply bifU | with_reducible exact rapp_rng _ _ _ _ | with_reducible exact z_U | with_reducible exact hn | with_reducible exact hr _ | with_reducible exact hu _ | with_reducible exact wrap_u64_rng _ | with_reducible exact mod_U (hu _))

def val_l0 (l : List Nd) (e : Ev) : Nat → List Int → Int → List Int
  | 0, _, _ => default
  | m + 1, v, i => (bif decide (i < (l.length : Int)) then (val_l0 l e m (v ++ ([(one_s l v e (l.getD ((i).toNat) default))] : List Int)) (i + 1)) else v)
set_option maxRecDepth 100000 in
theorem val_lok0 (l : List Nd) (e : Ev) (hl : l.length < 2 ^ 40) (hv : NdsOk l) (hn : ∀ j, U64 (l.getD j default).n) (hr : ∀ j, U64 (e.regs j)) (he : e.inp.length < 2 ^ 40 ∧ e.mem.length < 2 ^ 40) : ∀ (m : Nat) (v : List Int) (i : Int), (0 ≤ i) → (i ≤ l.length) → (v.length = i.toNat) → (∀ j, U64 (v.getD j 0)) → l.length - (i : Int).toNat < m → Good Tryd.prog 9 Tryd.f9.ntmps (look []) false (.ro 1 ((val_l0 l e m v i).length) ((val_l0 l e m v i).map eu)) (postOf [] []) (headAt Tryd.f9 0) [(0, .ro 6 l.length ((l).map eNd)), (3, .ptr 701 0), (4, .v (.slice none 0 0)), (5, .own 871), (6, .v (.int .i64 i))] [(871, .row 1 24 v.length ((v).map eu)), (701, .cells (cat [.ro 1 e.inp.length ((e.inp).map eb)] (cat (arrA aU 8 e.regs) [.ro 1 e.mem.length ((e.mem).map eb)])) 27)] := by
  intro m
  induction m with
  | zero => intro v i i0 i1 i2 hu hm; exact absurd hm (Nat.not_lt_zero _)
  | succ m ih =>
    intro v i i0 i1 i2 hu hm
    rw [val_l0]
    cases h3003 : (decide (i < (l.length : Int)))
    · have p3003 := of_decide_eq_false h3003
      refine Good.freeze (n := 871) (by rfl) ?_
      exact good_run Tryd.func9 mixed 400 [(3003, .b false)] (all1 h3003) (by kernel_rfl)
    · have p3003 := of_decide_eq_true h3003
      refine good_head (T := [(0, .ro 6 l.length ((l).map eNd)), (3, .ptr 701 0), (4, .v (.slice none 0 0)), (5, .own 752), (6, .v (.int .i64 (i + 1)))]) (H := [(752, .row 1 24 ((v ++ ([(one_s l v e (l.getD ((i).toNat) default))] : List Int)).length) ((v ++ ([(one_s l v e (l.getD ((i).toNat) default))] : List Int)).map eu)), (701, .cells (cat [.ro 1 e.inp.length ((e.inp).map eb)] (cat (arrA aU 8 e.regs) [.ro 1 e.mem.length ((e.mem).map eb)])) 27)]) (todo' := headAt Tryd.f9 0) Tryd.func9 mixed 400 [(3003, .b true), (5006, .el (eNd (l.getD ((i).toNat) default))), (5008, .call [871] [] (.v (.int .u64 (one_s l v e (l.getD ((i).toNat) default))))), (5009, .app 751 (([(one_s l v e (l.getD ((i).toNat) default))] : List Int).length) (([(one_s l v e (l.getD ((i).toNat) default))] : List Int).map eu)), (5010, .app 752 ((v ++ ([(one_s l v e (l.getD ((i).toNat) default))] : List Int)).length) ((v ++ ([(one_s l v e (l.getD ((i).toNat) default))] : List Int)).map eu)), (4001, .as_ (.v (.int .i64 (i + 1))))] (.cons h3003 (.cons (show (0 : Int) ≤ i by omega) (all8 (getg (l := l) (n := (i).toNat) eNd default (by omega)) (one_ok l v e (l.getD ((i).toNat) default) hv (hv i.toNat (by omega)).op (uq hv (by omega) (by omega)) (by omega) (hv i.toNat (by omega)).n2 (hn _) hu he) (And.intro (Eq.refl (([(one_s l v e (l.getD ((i).toNat) default))] : List Int).map eu)) (Eq.refl (([(one_s l v e (l.getD ((i).toNat) default))] : List Int).length))) (oneE eu (fun _ => rfl) ([(one_s l v e (l.getD ((i).toNat) default))] : List Int)) (show (v.length + ([(one_s l v e (l.getD ((i).toNat) default))] : List Int).length) * 8 ≤ 140737488355328 by (first | omega | (simp only [List.length_append, List.length_cons, List.length_nil, List.length_map, List.length_take, List.length_drop, List.length_replicate, maxLen] <;> omega))) (show v.length + ([(one_s l v e (l.getD ((i).toNat) default))] : List Int).length ≤ maxLen by (first | omega | (simp only [List.length_append, List.length_cons, List.length_nil, List.length_map, List.length_take, List.length_drop, List.length_replicate, maxLen] <;> omega))) (appE eu v ([(one_s l v e (l.getD ((i).toNat) default))] : List Int)) (wr64 (x := i + 1) (by omega))))) (by kernel_rfl) ?_
      refine Good.ren 752 871 (by kernel_rfl) ?_
      exact Good.cast (by kernel_rfl) (by kernel_rfl) (ih (v ++ ([(one_s l v e (l.getD ((i).toNat) default))] : List Int)) (i + 1) (by first | omega | (first | omega | (simp only [List.length_append, List.length_cons, List.length_nil, List.length_map, List.length_take, List.length_drop, List.length_replicate, maxLen] <;> omega))) (by first | omega | (first | omega | (simp only [List.length_append, List.length_cons, List.length_nil, List.length_map, List.length_take, List.length_drop, List.length_replicate, maxLen] <;> omega))) (by first | omega | (first | omega | (simp only [List.length_append, List.length_cons, List.length_nil, List.length_map, List.length_take, List.length_drop, List.length_replicate, maxLen] <;> omega))) (by first | exact u_nil | exact u_app hu (one_rng (hn _) hu hr)) (by omega))
def val_s (l : List Nd) (e : Ev) : List Int := (val_l0 l e (l.length - ((0) : Int).toNat + 1) ([] : List Int) 0)
set_option maxRecDepth 100000 in
theorem val_ok (l : List Nd) (e : Ev) (hl : l.length < 2 ^ 40) (hv : NdsOk l) (hn : ∀ j, U64 (l.getD j default).n) (hr : ∀ j, U64 (e.regs j)) (he : e.inp.length < 2 ^ 40 ∧ e.mem.length < 2 ^ 40) : Ok Tryd.prog 9 [.ro 6 l.length ((l).map eNd), .agg (cat [.ro 1 e.inp.length ((e.inp).map eb)] (cat (arrA aU 8 e.regs) [.ro 1 e.mem.length ((e.mem).map eb)]))] (look []) (.ro 1 ((val_s l e).length) ((val_s l e).map eu)) (postOf [] []) := by
  unfold val_s
  refine ok_head (T := [(0, .ro 6 l.length ((l).map eNd)), (3, .ptr 701 0), (4, .v (.slice none 0 0)), (5, .v (.slice none 0 0)), (6, .v (.int .i64 0))]) (H := [(701, .cells (cat [.ro 1 e.inp.length ((e.inp).map eb)] (cat (arrA aU 8 e.regs) [.ro 1 e.mem.length ((e.mem).map eb)])) 27)]) (todo := headAt Tryd.f9 0) Tryd.func9 rfl rfl mixed 400 [(0, .nm 701)] (all0) (by kernel_rfl) ?_
  refine Good.named 871 1 24 [5] (by decide) (by kernel_rfl) ?_
  exact Good.cast (by kernel_rfl) (by kernel_rfl) (val_lok0 l e hl hv hn hr he _ ([] : List Int) 0 (by first | omega | (first | omega | (simp only [List.length_append, List.length_cons, List.length_nil, List.length_map, List.length_take, List.length_drop, List.length_replicate, maxLen] <;> omega))) (by first | omega | (first | omega | (simp only [List.length_append, List.length_cons, List.length_nil, List.length_map, List.length_take, List.length_drop, List.length_replicate, maxLen] <;> omega))) (by first | omega | (first | omega | (simp only [List.length_append, List.length_cons, List.length_nil, List.length_map, List.length_take, List.length_drop, List.length_replicate, maxLen] <;> omega))) (by first | exact u_nil | exact u_app hu (one_rng (hn _) hu hr)) (Nat.lt_succ_self _))

theorem val_l0_len {l : List Nd} {e : Ev} : ∀ (m : Nat) (v : List Int) (i : Int), 0 ≤ i → i ≤ l.length → l.length - i.toNat < m → v.length = i.toNat → (val_l0 l e m v i).length = l.length := by
  intro m
  induction m with
  | zero => intro v i _ _ h; omega
  | succ m ih =>
    intro v i h0 h1 hm ho
    rw [val_l0]
    cases c : decide (i < (l.length : Int)) with
    | false => have c := of_decide_eq_false c; rw [cond_false]; show v.length = _; omega
    | true =>
      have c := of_decide_eq_true c
      rw [cond_true]
      exact ih _ _ (by omega) (by omega) (by omega) (by simp; omega)
theorem val_len (l : List Nd) (e : Ev) : (val_s l e).length = l.length := val_l0_len _ _ _ (by omega) (by omega) (Nat.lt_succ_self _) rfl

def gre_s (l : List Nd) (e : Ev) : Bool := (bif decide ((l.length : Int) > (300 : Int)) then true else (bif decide ((e.inp.length : Int) > (100 : Int)) then true else (decide ((e.mem.length : Int) > (300 : Int)))))
set_option maxRecDepth 100000 in
theorem gre_ok (l : List Nd) (e : Ev)  : Ok Tryd.prog 6 [.ro 6 l.length ((l).map eNd), .agg (cat [.ro 1 e.inp.length ((e.inp).map eb)] (cat (arrA aU 8 e.regs) [.ro 1 e.mem.length ((e.mem).map eb)]))] (look []) (.v (.bool (gre_s l e))) (postOf [] []) := by
  unfold gre_s
  cases h1002 : (decide ((l.length : Int) > (300 : Int)))
  · have p1002 := of_decide_eq_false h1002
    cases h1007 : (decide ((e.inp.length : Int) > (100 : Int)))
    · have p1007 := of_decide_eq_false h1007
      exact ok_run Tryd.func6 rfl rfl mixed 400 [(0, .nm 901), (1002, .b false), (1007, .b false)] (all2 h1002 h1007) (by kernel_rfl)
    · have p1007 := of_decide_eq_true h1007
      exact ok_run Tryd.func6 rfl rfl mixed 400 [(0, .nm 901), (1002, .b false), (1007, .b true)] (all2 h1002 h1007) (by kernel_rfl)
  · have p1002 := of_decide_eq_true h1002
    exact ok_run Tryd.func6 rfl rfl mixed 400 [(0, .nm 901), (1002, .b true)] (all1 h1002) (by kernel_rfl)

def sma_s (l : List Nd) (n : Int) : Bool := (bif decide ((l.length : Int) > n) then false else (((rchk_s l).1) == (0 : Int)))
set_option maxRecDepth 100000 in
theorem sma_ok (l : List Nd) (n : Int) (hl : l.length < 2 ^ 40) : Ok Tryd.prog 7 [.ro 6 l.length ((l).map eNd), .v (.int .i64 n)] (look []) (.v (.bool (sma_s l n))) (postOf [] []) := by
  unfold sma_s
  cases h1003 : (decide ((l.length : Int) > n))
  · have p1003 := of_decide_eq_false h1003
    exact ok_run Tryd.func7 rfl rfl mixed 400 [(1003, .b false), (3001, .call [] [] (.tup [.v (.int .i64 ((rchk_s l).1)), .v (.int .i64 ((rchk_s l).2))]))] (all2 h1003 (rchk_ok l (by first | omega | (first | omega | (simp only [List.length_append, List.length_cons, List.length_nil, List.length_map, List.length_take, List.length_drop, List.length_replicate, maxLen] <;> omega))))) (by kernel_rfl)
  · have p1003 := of_decide_eq_true h1003
    exact ok_run Tryd.func7 rfl rfl mixed 400 [(1003, .b true)] (all1 h1003) (by kernel_rfl)

theorem gre_f {l : List Nd} {e : Ev} (h : gre_s l e = false) : l.length ≤ 300 ∧ e.inp.length ≤ 100 ∧ e.mem.length ≤ 300 := by
  unfold gre_s at h
  cases c1 : decide ((l.length : Int) > (300 : Int)) with
  | true => rw [c1] at h; cases h
  | false =>
    rw [c1, cond_false] at h
    have c1 := of_decide_eq_false c1
    cases c2 : decide ((e.inp.length : Int) > (100 : Int)) with
    | true => rw [c2] at h; cases h
    | false =>
      rw [c2, cond_false] at h
      have c2 := of_decide_eq_false c2
      have c3 := of_decide_eq_false h
      omega
theorem sma_t {l : List Nd} {n : Int} (h : sma_s l n = true) : (rchk_s l).1 = 0 ∧ 1 ≤ l.length := by
  have k : (rchk_s l).1 = 0 → 1 ≤ l.length := fun q => by
    by_cases c : l.length = 0
    · unfold rchk_s at q
      rw [show ((l.length : Int) == (0 : Int)) = true by rw [c]; rfl] at q
      cases q
    · omega
  suffices (rchk_s l).1 = 0 from ⟨this, k this⟩
  unfold sma_s at h
  cases c1 : decide ((l.length : Int) > n) with
  | true => rw [c1] at h; cases h
  | false => rw [c1, cond_false] at h; exact eq_of_beq h
end Go.Proofs.YtahobmjchppciaaDoor.Sx.M5
