/- What the functions of a chapter compute, as contracts; written by a program of this session. -/
import Derived.Test.YteolbecihipcaaaM12
open Go Go.Proofs Go.RowKit
namespace Go.Proofs.Yteolbecihipcaaa.Sx.M5
set_option linter.unusedVariables false
set_option linter.unusedSimpArgs false
def goes2_s (n : Int) : Bool := (bif decide (n ≥ (0 : Int)) then (bif decide (n ≤ (25 : Int)) then (bif n != (0 : Int) then (bif n != (21 : Int) then (bif n != (24 : Int) then (n != (25 : Int)) else false) else false) else false) else false) else false)
set_option maxRecDepth 100000 in
theorem goes2_ok (n : Int)  : Ok Try.prog 77 [.v (.int .i64 n)] (look []) (.v (.bool (goes2_s n))) (postOf [] []) := by
  unfold goes2_s
  cases h1001 : (decide (n ≥ (0 : Int)))
  · have p1001 := of_decide_eq_false h1001
    exact ok_run Try.func77 rfl rfl mixed 400 [(1001, .b false)] (all1 h1001) (by kernel_rfl)
  · have p1001 := of_decide_eq_true h1001
    cases h1004 : (decide (n ≤ (25 : Int)))
    · have p1004 := of_decide_eq_false h1004
      exact ok_run Try.func77 rfl rfl mixed 400 [(1001, .b true), (1004, .b false)] (all2 h1001 h1004) (by kernel_rfl)
    · have p1004 := of_decide_eq_true h1004
      cases h1008 : (n != (0 : Int))
      · have p1008 := bne_eq_false_iff_eq.1 h1008
        exact ok_run Try.func77 rfl rfl mixed 400 [(1001, .b true), (1004, .b true), (1008, .b false)] (all3 h1001 h1004 h1008) (by kernel_rfl)
      · have p1008 := bne_iff_ne.1 h1008
        cases h1012 : (n != (21 : Int))
        · have p1012 := bne_eq_false_iff_eq.1 h1012
          exact ok_run Try.func77 rfl rfl mixed 400 [(1001, .b true), (1004, .b true), (1008, .b true), (1012, .b false)] (all4 h1001 h1004 h1008 h1012) (by kernel_rfl)
        · have p1012 := bne_iff_ne.1 h1012
          cases h1016 : (n != (24 : Int))
          · have p1016 := bne_eq_false_iff_eq.1 h1016
            exact ok_run Try.func77 rfl rfl mixed 400 [(1001, .b true), (1004, .b true), (1008, .b true), (1012, .b true), (1016, .b false)] (all5 h1001 h1004 h1008 h1012 h1016) (by kernel_rfl)
          · have p1016 := bne_iff_ne.1 h1016
            exact ok_run Try.func77 rfl rfl mixed 400 [(1001, .b true), (1004, .b true), (1008, .b true), (1012, .b true), (1016, .b true)] (all5 h1001 h1004 h1008 h1012 h1016) (by kernel_rfl)

def ints_l0 (a b : List Int) : Nat → Int → Bool
  | 0, _ => default
  | m + 1, i => (bif decide (i < (a.length : Int)) then (bif (a.getD ((i).toNat) 0) != (b.getD ((i).toNat) 0) then false else (ints_l0 a b m (i + 1))) else true)
set_option maxRecDepth 100000 in
theorem ints_lok0 (a b : List Int) (h0 : a.length < 2 ^ 40) (h1 : b.length < 2 ^ 40) : ∀ (m : Nat) (i : Int), (0 ≤ i) → (i ≤ a.length) → (a.length = b.length) → a.length - (i : Int).toNat < m → Good Try.prog 33 Try.f33.ntmps (look []) false (.v (.bool (ints_l0 a b m i))) (postOf [] []) (headAt Try.f33 0) [(0, .ro 1 a.length ((a).map ei)), (1, .ro 1 b.length ((b).map ei)), (4, .v (.bool false)), (5, .v (.int .i64 i))] [] := by
  intro m
  induction m with
  | zero => intro i i1 i2 i3 hm; exact absurd hm (Nat.not_lt_zero _)
  | succ m ih =>
    intro i i1 i2 i3 hm
    rw [ints_l0]
    cases h4003 : (decide (i < (a.length : Int)))
    · have p4003 := of_decide_eq_false h4003
      exact good_run Try.func33 mixed 400 [(4003, .b false)] (all1 h4003) (by kernel_rfl)
    · have p4003 := of_decide_eq_true h4003
      cases h6008 : ((a.getD ((i).toNat) 0) != (b.getD ((i).toNat) 0))
      · have p6008 := bne_eq_false_iff_eq.1 h6008
        refine good_head (T := [(0, .ro 1 a.length ((a).map ei)), (1, .ro 1 b.length ((b).map ei)), (4, .v (.bool false)), (5, .v (.int .i64 (i + 1)))]) (H := []) (todo' := headAt Try.f33 0) Try.func33 mixed 400 [(4003, .b true), (6002, .el (ei (a.getD ((i).toNat) 0))), (6006, .el (ei (b.getD ((i).toNat) 0))), (6008, .b false), (5001, .as_ (.v (.int .i64 (i + 1))))] (all7 h4003 (show (0 : Int) ≤ i by omega) (getg (l := a) (n := (i).toNat) ei 0 (by omega)) (show (0 : Int) ≤ i by omega) (getg (l := b) (n := (i).toNat) ei 0 (by omega)) h6008 (wr64 (x := i + 1) (by omega))) (by kernel_rfl) ?_
        exact ih (i + 1) (by omega) (by omega) (by omega) (by omega)
      · have p6008 := bne_iff_ne.1 h6008
        exact good_run Try.func33 mixed 400 [(4003, .b true), (6002, .el (ei (a.getD ((i).toNat) 0))), (6006, .el (ei (b.getD ((i).toNat) 0))), (6008, .b true)] (all6 h4003 (show (0 : Int) ≤ i by omega) (getg (l := a) (n := (i).toNat) ei 0 (by omega)) (show (0 : Int) ≤ i by omega) (getg (l := b) (n := (i).toNat) ei 0 (by omega)) h6008) (by kernel_rfl)
def ints_s (a b : List Int) : Bool := (bif (a.length : Int) != (b.length : Int) then false else (ints_l0 a b (a.length - ((0) : Int).toNat + 1) 0))
set_option maxRecDepth 100000 in
theorem ints_ok (a b : List Int) (h0 : a.length < 2 ^ 40) (h1 : b.length < 2 ^ 40) : Ok Try.prog 33 [.ro 1 a.length ((a).map ei), .ro 1 b.length ((b).map ei)] (look []) (.v (.bool (ints_s a b))) (postOf [] []) := by
  unfold ints_s
  cases h1004 : ((a.length : Int) != (b.length : Int))
  · have p1004 := bne_eq_false_iff_eq.1 h1004
    refine ok_head (T := [(0, .ro 1 a.length ((a).map ei)), (1, .ro 1 b.length ((b).map ei)), (4, .v (.bool false)), (5, .v (.int .i64 0))]) (H := []) (todo := headAt Try.f33 0) Try.func33 rfl rfl mixed 400 [(1004, .b false)] (all1 h1004) (by kernel_rfl) ?_
    exact ints_lok0 a b h0 h1 _ 0 (by omega) (by omega) (by omega) (Nat.lt_succ_self _)
  · have p1004 := bne_iff_ne.1 h1004
    exact ok_run Try.func33 rfl rfl mixed 400 [(1004, .b true)] (all1 h1004) (by kernel_rfl)

def rfun_l0 (p : Img) (place : Int) : Nat → Int → Int → Int
  | 0, _, _ => default
  | m + 1, f, i => (bif decide (i < (p.funs.length : Int)) then (bif decide ((p.funs.getD ((i).toNat) 0) ≤ place) then (rfun_l0 p place m i (i + 1)) else (rfun_l0 p place m f (i + 1))) else f)
set_option maxRecDepth 100000 in
theorem rfun_lok0 (p : Img) (place : Int) (hp : Small p) : ∀ (m : Nat) (f : Int) (i : Int), (0 ≤ i) → (i ≤ p.funs.length) → p.funs.length - (i : Int).toNat < m → Good Try.prog 25 Try.f25.ntmps (look []) false (.v (.int .i64 (rfun_l0 p place m f i))) (postOf [] []) (headAt Try.f25 0) [(1, .v (.int .i64 place)), (2, .ptr 101 0), (4, .v (.int .i64 0)), (5, .v (.int .i64 f)), (6, .v (.int .i64 i))] [(101, .cells [.v (.int .i64 p.mem), .v (.int .i64 p.stack), .v (.int .i64 p.input), .ro 1 p.data.length ((p.data).map eb), .ro 1 p.funs.length ((p.funs).map ei), .ro 5 p.code.length ((p.code).map eIns)] 26)] := by
  intro m
  induction m with
  | zero => intro f i i1 i2 hm; exact absurd hm (Nat.not_lt_zero _)
  | succ m ih =>
    intro f i i1 i2 hm
    rw [rfun_l0]
    have := hp.1; have := hp.2.1; have := hp.2.2
    cases h5004 : (decide (i < (p.funs.length : Int)))
    · have p5004 := of_decide_eq_false h5004
      exact good_run Try.func25 mixed 400 [(5004, .b false)] (all1 h5004) (by kernel_rfl)
    · have p5004 := of_decide_eq_true h5004
      cases h7006 : (decide ((p.funs.getD ((i).toNat) 0) ≤ place))
      · have p7006 := of_decide_eq_false h7006
        refine good_head (T := [(1, .v (.int .i64 place)), (2, .ptr 101 0), (4, .v (.int .i64 0)), (5, .v (.int .i64 f)), (6, .v (.int .i64 (i + 1)))]) (H := [(101, .cells [.v (.int .i64 p.mem), .v (.int .i64 p.stack), .v (.int .i64 p.input), .ro 1 p.data.length ((p.data).map eb), .ro 1 p.funs.length ((p.funs).map ei), .ro 5 p.code.length ((p.code).map eIns)] 26)]) (todo' := headAt Try.f25 0) Try.func25 mixed 400 [(5004, .b true), (7003, .el (ei (p.funs.getD ((i).toNat) 0))), (7006, .b false), (6001, .as_ (.v (.int .i64 (i + 1))))] (all5 h5004 (show (0 : Int) ≤ i by omega) (getg (l := p.funs) (n := (i).toNat) ei 0 (by omega)) h7006 (wr64 (x := i + 1) (by omega))) (by kernel_rfl) ?_
        exact ih f (i + 1) (by omega) (by omega) (by omega)
      · have p7006 := of_decide_eq_true h7006
        refine good_head (T := [(1, .v (.int .i64 place)), (2, .ptr 101 0), (4, .v (.int .i64 0)), (5, .v (.int .i64 i)), (6, .v (.int .i64 (i + 1)))]) (H := [(101, .cells [.v (.int .i64 p.mem), .v (.int .i64 p.stack), .v (.int .i64 p.input), .ro 1 p.data.length ((p.data).map eb), .ro 1 p.funs.length ((p.funs).map ei), .ro 5 p.code.length ((p.code).map eIns)] 26)]) (todo' := headAt Try.f25 0) Try.func25 mixed 400 [(5004, .b true), (7003, .el (ei (p.funs.getD ((i).toNat) 0))), (7006, .b true), (6001, .as_ (.v (.int .i64 (i + 1))))] (all5 h5004 (show (0 : Int) ≤ i by omega) (getg (l := p.funs) (n := (i).toNat) ei 0 (by omega)) h7006 (wr64 (x := i + 1) (by omega))) (by kernel_rfl) ?_
        exact ih i (i + 1) (by omega) (by omega) (by omega)
def rfun_s (p : Img) (place : Int) : Int := (bif decide (place < (0 : Int)) then (-1 : Int) else (bif decide (place ≥ (p.code.length : Int)) then (-1 : Int) else (rfun_l0 p place (p.funs.length - ((0) : Int).toNat + 1) (-1) 0)))
set_option maxRecDepth 100000 in
theorem rfun_ok (p : Img) (place : Int) (hp : Small p) : Ok Try.prog 25 [.agg [.v (.int .i64 p.mem), .v (.int .i64 p.stack), .v (.int .i64 p.input), .ro 1 p.data.length ((p.data).map eb), .ro 1 p.funs.length ((p.funs).map ei), .ro 5 p.code.length ((p.code).map eIns)], .v (.int .i64 place)] (look []) (.v (.int .i64 (rfun_s p place))) (postOf [] []) := by
  unfold rfun_s
  have := hp.1; have := hp.2.1; have := hp.2.2
  cases h1001 : (decide (place < (0 : Int)))
  · have p1001 := of_decide_eq_false h1001
    cases h1007 : (decide (place ≥ (p.code.length : Int)))
    · have p1007 := of_decide_eq_false h1007
      refine ok_head (T := [(1, .v (.int .i64 place)), (2, .ptr 101 0), (4, .v (.int .i64 0)), (5, .v (.int .i64 (-1))), (6, .v (.int .i64 0))]) (H := [(101, .cells [.v (.int .i64 p.mem), .v (.int .i64 p.stack), .v (.int .i64 p.input), .ro 1 p.data.length ((p.data).map eb), .ro 1 p.funs.length ((p.funs).map ei), .ro 5 p.code.length ((p.code).map eIns)] 26)]) (todo := headAt Try.f25 0) Try.func25 rfl rfl mixed 400 [(0, .nm 101), (1001, .b false), (1007, .b false)] (all2 h1001 h1007) (by kernel_rfl) ?_
      exact rfun_lok0 p place hp _ (-1) 0 (by omega) (by omega) (Nat.lt_succ_self _)
    · have p1007 := of_decide_eq_true h1007
      exact ok_run Try.func25 rfl rfl mixed 400 [(0, .nm 101), (1001, .b false), (1007, .b true)] (all2 h1001 h1007) (by kernel_rfl)
  · have p1001 := of_decide_eq_true h1001
    exact ok_run Try.func25 rfl rfl mixed 400 [(0, .nm 101), (1001, .b true)] (all1 h1001) (by kernel_rfl)

def has_s (n : Int) : ByteArray := (bif n == (0 : Int) then (⟨#[]⟩ : ByteArray) else (bif n == (24 : Int) then (⟨#[]⟩ : ByteArray) else (bif n == (25 : Int) then (⟨#[]⟩ : ByteArray) else (bif n == (1 : Int) then (⟨#[97, 105]⟩ : ByteArray) else (bif n == (22 : Int) then (⟨#[97, 105]⟩ : ByteArray) else (bif n == (2 : Int) then (⟨#[97, 98]⟩ : ByteArray) else (bif n == (17 : Int) then (⟨#[97, 98, 119, 105]⟩ : ByteArray) else (bif n == (18 : Int) then (⟨#[97, 98, 119, 105]⟩ : ByteArray) else (bif n == (19 : Int) then (⟨#[97, 98, 105]⟩ : ByteArray) else (bif n == (20 : Int) then (⟨#[97]⟩ : ByteArray) else (bif n == (21 : Int) then (⟨#[105]⟩ : ByteArray) else (bif n == (23 : Int) then (⟨#[105]⟩ : ByteArray) else (⟨#[97, 98, 99]⟩ : ByteArray)))))))))))))
set_option maxRecDepth 100000 in
theorem has_ok (n : Int)  : Ok Try.prog 89 [.v (.int .i64 n)] (look []) (.v (.string (has_s n))) (postOf [] []) := by
  unfold has_s
  cases h2000 : (n == (0 : Int))
  · have p2000 := ne_of_beq_false h2000
    cases h3000 : (n == (24 : Int))
    · have p3000 := ne_of_beq_false h3000
      cases h4000 : (n == (25 : Int))
      · have p4000 := ne_of_beq_false h4000
        cases h6000 : (n == (1 : Int))
        · have p6000 := ne_of_beq_false h6000
          cases h7000 : (n == (22 : Int))
          · have p7000 := ne_of_beq_false h7000
            cases h9000 : (n == (2 : Int))
            · have p9000 := ne_of_beq_false h9000
              cases h11000 : (n == (17 : Int))
              · have p11000 := ne_of_beq_false h11000
                cases h12000 : (n == (18 : Int))
                · have p12000 := ne_of_beq_false h12000
                  cases h14000 : (n == (19 : Int))
                  · have p14000 := ne_of_beq_false h14000
                    cases h16000 : (n == (20 : Int))
                    · have p16000 := ne_of_beq_false h16000
                      cases h18000 : (n == (21 : Int))
                      · have p18000 := ne_of_beq_false h18000
                        cases h19000 : (n == (23 : Int))
                        · have p19000 := ne_of_beq_false h19000
                          exact ok_run Try.func89 rfl rfl mixed 400 [(2000, .b false), (3000, .b false), (4000, .b false), (6000, .b false), (7000, .b false), (9000, .b false), (11000, .b false), (12000, .b false), (14000, .b false), (16000, .b false), (18000, .b false), (19000, .b false)] (.cons h2000 (.cons h3000 (.cons h4000 (.cons h6000 (all8 h7000 h9000 h11000 h12000 h14000 h16000 h18000 h19000))))) (by kernel_rfl)
                        · have p19000 := eq_of_beq h19000
                          exact ok_run Try.func89 rfl rfl mixed 400 [(2000, .b false), (3000, .b false), (4000, .b false), (6000, .b false), (7000, .b false), (9000, .b false), (11000, .b false), (12000, .b false), (14000, .b false), (16000, .b false), (18000, .b false), (19000, .b true)] (.cons h2000 (.cons h3000 (.cons h4000 (.cons h6000 (all8 h7000 h9000 h11000 h12000 h14000 h16000 h18000 h19000))))) (by kernel_rfl)
                      · have p18000 := eq_of_beq h18000
                        exact ok_run Try.func89 rfl rfl mixed 400 [(2000, .b false), (3000, .b false), (4000, .b false), (6000, .b false), (7000, .b false), (9000, .b false), (11000, .b false), (12000, .b false), (14000, .b false), (16000, .b false), (18000, .b true)] (.cons h2000 (.cons h3000 (.cons h4000 (all8 h6000 h7000 h9000 h11000 h12000 h14000 h16000 h18000)))) (by kernel_rfl)
                    · have p16000 := eq_of_beq h16000
                      exact ok_run Try.func89 rfl rfl mixed 400 [(2000, .b false), (3000, .b false), (4000, .b false), (6000, .b false), (7000, .b false), (9000, .b false), (11000, .b false), (12000, .b false), (14000, .b false), (16000, .b true)] (.cons h2000 (.cons h3000 (all8 h4000 h6000 h7000 h9000 h11000 h12000 h14000 h16000))) (by kernel_rfl)
                  · have p14000 := eq_of_beq h14000
                    exact ok_run Try.func89 rfl rfl mixed 400 [(2000, .b false), (3000, .b false), (4000, .b false), (6000, .b false), (7000, .b false), (9000, .b false), (11000, .b false), (12000, .b false), (14000, .b true)] (.cons h2000 (all8 h3000 h4000 h6000 h7000 h9000 h11000 h12000 h14000)) (by kernel_rfl)
                · have p12000 := eq_of_beq h12000
                  exact ok_run Try.func89 rfl rfl mixed 400 [(2000, .b false), (3000, .b false), (4000, .b false), (6000, .b false), (7000, .b false), (9000, .b false), (11000, .b false), (12000, .b true)] (all8 h2000 h3000 h4000 h6000 h7000 h9000 h11000 h12000) (by kernel_rfl)
              · have p11000 := eq_of_beq h11000
                exact ok_run Try.func89 rfl rfl mixed 400 [(2000, .b false), (3000, .b false), (4000, .b false), (6000, .b false), (7000, .b false), (9000, .b false), (11000, .b true)] (all7 h2000 h3000 h4000 h6000 h7000 h9000 h11000) (by kernel_rfl)
            · have p9000 := eq_of_beq h9000
              exact ok_run Try.func89 rfl rfl mixed 400 [(2000, .b false), (3000, .b false), (4000, .b false), (6000, .b false), (7000, .b false), (9000, .b true)] (all6 h2000 h3000 h4000 h6000 h7000 h9000) (by kernel_rfl)
          · have p7000 := eq_of_beq h7000
            exact ok_run Try.func89 rfl rfl mixed 400 [(2000, .b false), (3000, .b false), (4000, .b false), (6000, .b false), (7000, .b true)] (all5 h2000 h3000 h4000 h6000 h7000) (by kernel_rfl)
        · have p6000 := eq_of_beq h6000
          exact ok_run Try.func89 rfl rfl mixed 400 [(2000, .b false), (3000, .b false), (4000, .b false), (6000, .b true)] (all4 h2000 h3000 h4000 h6000) (by kernel_rfl)
      · have p4000 := eq_of_beq h4000
        exact ok_run Try.func89 rfl rfl mixed 400 [(2000, .b false), (3000, .b false), (4000, .b true)] (all3 h2000 h3000 h4000) (by kernel_rfl)
    · have p3000 := eq_of_beq h3000
      exact ok_run Try.func89 rfl rfl mixed 400 [(2000, .b false), (3000, .b true)] (all2 h2000 h3000) (by kernel_rfl)
  · have p2000 := eq_of_beq h2000
    exact ok_run Try.func89 rfl rfl mixed 400 [(2000, .b true)] (all1 h2000) (by kernel_rfl)

def in2_l0 (s : ByteArray) (c : Int) : Nat → Int → Bool
  | 0, _ => default
  | m + 1, i => (bif decide (i < (s.size : Int)) then (bif (sByte (s : ByteArray) i) == c then true else (in2_l0 s c m (i + 1))) else false)
set_option maxRecDepth 100000 in
theorem in2_lok0 (s : ByteArray) (c : Int) (hs : s.size < 2 ^ 40) : ∀ (m : Nat) (i : Int), (0 ≤ i) → (i ≤ s.size) → s.size - (i : Int).toNat < m → Good Try.prog 91 Try.f91.ntmps (look []) false (.v (.bool (in2_l0 s c m i))) (postOf [] []) (headAt Try.f91 0) [(0, .v (.string s)), (1, .v (.int .u8 c)), (4, .v (.bool false)), (5, .v (.int .i64 i))] [] := by
  intro m
  induction m with
  | zero => intro i i1 i2 hm; exact absurd hm (Nat.not_lt_zero _)
  | succ m ih =>
    intro i i1 i2 hm
    rw [in2_l0]
    cases h2003 : (decide (i < (s.size : Int)))
    · have p2003 := of_decide_eq_false h2003
      exact good_run Try.func91 mixed 400 [(2003, .b false)] (all1 h2003) (by kernel_rfl)
    · have p2003 := of_decide_eq_true h2003
      cases h4004 : ((sByte (s : ByteArray) i) == c)
      · have p4004 := ne_of_beq_false h4004
        refine good_head (T := [(0, .v (.string s)), (1, .v (.int .u8 c)), (4, .v (.bool false)), (5, .v (.int .i64 (i + 1)))]) (H := []) (todo' := headAt Try.f91 0) Try.func91 mixed 400 [(2003, .b true), (4002, .nat 0), (4004, .b false), (3001, .as_ (.v (.int .i64 (i + 1))))] (all4 h2003 (And.intro (show (0 : Int) ≤ i by omega) (show (i : Int) < ((s : ByteArray).size : Int) by omega)) h4004 (wr64 (x := i + 1) (by omega))) (by kernel_rfl) ?_
        exact ih (i + 1) (by omega) (by omega) (by omega)
      · have p4004 := eq_of_beq h4004
        exact good_run Try.func91 mixed 400 [(2003, .b true), (4002, .nat 0), (4004, .b true)] (all3 h2003 (And.intro (show (0 : Int) ≤ i by omega) (show (i : Int) < ((s : ByteArray).size : Int) by omega)) h4004) (by kernel_rfl)
def in2_s (s : ByteArray) (c : Int) : Bool := (in2_l0 s c (s.size - ((0) : Int).toNat + 1) 0)
set_option maxRecDepth 100000 in
theorem in2_ok (s : ByteArray) (c : Int) (hs : s.size < 2 ^ 40) : Ok Try.prog 91 [.v (.string s), .v (.int .u8 c)] (look []) (.v (.bool (in2_s s c))) (postOf [] []) := by
  unfold in2_s
  refine ok_head (T := [(0, .v (.string s)), (1, .v (.int .u8 c)), (4, .v (.bool false)), (5, .v (.int .i64 0))]) (H := []) (todo := headAt Try.f91 0) Try.func91 rfl rfl mixed 400 [] (all0) (by kernel_rfl) ?_
  exact in2_lok0 s c hs _ 0 (by omega) (by omega) (Nat.lt_succ_self _)

def register2_s (s : ByteArray) (c n : Int) : Bool := (bif (in2_s s c) then (bif decide (n ≥ (0 : Int)) then (decide (n ≤ (7 : Int))) else false) else (n == (0 : Int)))
set_option maxRecDepth 100000 in
theorem register2_ok (s : ByteArray) (c n : Int) (hs : s.size < 2 ^ 40) : Ok Try.prog 90 [.v (.string s), .v (.int .u8 c), .v (.int .i64 n)] (look []) (.v (.bool (register2_s s c n))) (postOf [] []) := by
  unfold register2_s
  cases h1002 : ((in2_s s c))
  · exact ok_run Try.func90 rfl rfl mixed 400 [(1002, .two (.call [] [] (.v (.bool (in2_s s c)))) (.b false))] (all2 (in2_ok s c (by first | assumption | exact has_size _)) h1002) (by kernel_rfl)
  · cases h2001 : (decide (n ≥ (0 : Int)))
    · have p2001 := of_decide_eq_false h2001
      exact ok_run Try.func90 rfl rfl mixed 400 [(1002, .two (.call [] [] (.v (.bool (in2_s s c)))) (.b true)), (2001, .b false)] (all3 (in2_ok s c (by first | assumption | exact has_size _)) h1002 h2001) (by kernel_rfl)
    · have p2001 := of_decide_eq_true h2001
      exact ok_run Try.func90 rfl rfl mixed 400 [(1002, .two (.call [] [] (.v (.bool (in2_s s c)))) (.b true)), (2001, .b true)] (all3 (in2_ok s c (by first | assumption | exact has_size _)) h1002 h2001) (by kernel_rfl)

theorem sz_bif {b : Bool} {x y : ByteArray} (h1 : x.size < 2 ^ 40) (h2 : y.size < 2 ^ 40) : (bif b then x else y).size < 2 ^ 40 := by cases b <;> assumption
theorem has_size (n : Int) : (has_s n).size < 2 ^ 40 := by
  unfold has_s
  repeat' (first | decide | apply sz_bif)

def rwrong_s (i : Ins) : Int := (bif decide (i.op < (0 : Int)) then (0 : Int) else (bif decide (i.op > (25 : Int)) then (0 : Int) else (bif !(register2_s (has_s i.op) 97 i.a) then (1 : Int) else (bif !(register2_s (has_s i.op) 98 i.b) then (2 : Int) else (bif (in2_s (has_s i.op) 119) then (bif i.c != (1 : Int) then (bif i.c != (2 : Int) then (bif i.c != (4 : Int) then (bif i.c != (8 : Int) then (3 : Int) else (bif !(in2_s (has_s i.op) 105) then (bif i.imm != (0 : Int) then (4 : Int) else (-1 : Int)) else (-1 : Int))) else (bif !(in2_s (has_s i.op) 105) then (bif i.imm != (0 : Int) then (4 : Int) else (-1 : Int)) else (-1 : Int))) else (bif !(in2_s (has_s i.op) 105) then (bif i.imm != (0 : Int) then (4 : Int) else (-1 : Int)) else (-1 : Int))) else (bif !(in2_s (has_s i.op) 105) then (bif i.imm != (0 : Int) then (4 : Int) else (-1 : Int)) else (-1 : Int))) else (bif !(register2_s (has_s i.op) 99 i.c) then (3 : Int) else (bif !(in2_s (has_s i.op) 105) then (bif i.imm != (0 : Int) then (4 : Int) else (-1 : Int)) else (-1 : Int))))))))
set_option maxRecDepth 100000 in
theorem rwrong_ok (i : Ins)  : Ok Try.prog 76 [.agg [.v (.int .i64 i.op), .v (.int .i64 i.a), .v (.int .i64 i.b), .v (.int .i64 i.c), .v (.int .u64 i.imm)]] (look []) (.v (.int .i64 (rwrong_s i))) (postOf [] []) := by
  unfold rwrong_s
  cases h1002 : (decide (i.op < (0 : Int)))
  · have p1002 := of_decide_eq_false h1002
    cases h1006 : (decide (i.op > (25 : Int)))
    · have p1006 := of_decide_eq_false h1006
      cases h4004 : (!(register2_s (has_s i.op) 97 i.a))
      · have p4004 := notF h4004
        cases h6004 : (!(register2_s (has_s i.op) 98 i.b))
        · have p6004 := notF h6004
          cases h8001 : ((in2_s (has_s i.op) 119))
          · cases h11004 : (!(register2_s (has_s i.op) 99 i.c))
            · have p11004 := notF h11004
              cases h13002 : (!(in2_s (has_s i.op) 105))
              · have p13002 := notF h13002
                exact ok_run Try.func76 rfl rfl mixed 400 [(0, .nm 101), (1002, .b false), (1006, .b false), (3002, .call [] [] (.v (.string (has_s i.op)))), (4003, .call [] [] (.v (.bool (register2_s (has_s i.op) 97 i.a)))), (4004, .b false), (6003, .call [] [] (.v (.bool (register2_s (has_s i.op) 98 i.b)))), (6004, .b false), (8001, .two (.call [] [] (.v (.bool (in2_s (has_s i.op) 119)))) (.b false)), (11003, .call [] [] (.v (.bool (register2_s (has_s i.op) 99 i.c)))), (11004, .b false), (13001, .call [] [] (.v (.bool (in2_s (has_s i.op) 105)))), (13002, .b false)] (.cons h1002 (.cons h1006 (.cons (has_ok i.op ) (.cons (register2_ok (has_s i.op) 97 i.a (has_size _)) (.cons h4004 (all8 (register2_ok (has_s i.op) 98 i.b (has_size _)) h6004 (in2_ok (has_s i.op) 119 (by first | assumption | exact has_size _)) h8001 (register2_ok (has_s i.op) 99 i.c (has_size _)) h11004 (in2_ok (has_s i.op) 105 (by first | assumption | exact has_size _)) h13002)))))) (by kernel_rfl)
              · have p13002 := notT h13002
                cases h13006 : (i.imm != (0 : Int))
                · have p13006 := bne_eq_false_iff_eq.1 h13006
                  exact ok_run Try.func76 rfl rfl mixed 400 [(0, .nm 101), (1002, .b false), (1006, .b false), (3002, .call [] [] (.v (.string (has_s i.op)))), (4003, .call [] [] (.v (.bool (register2_s (has_s i.op) 97 i.a)))), (4004, .b false), (6003, .call [] [] (.v (.bool (register2_s (has_s i.op) 98 i.b)))), (6004, .b false), (8001, .two (.call [] [] (.v (.bool (in2_s (has_s i.op) 119)))) (.b false)), (11003, .call [] [] (.v (.bool (register2_s (has_s i.op) 99 i.c)))), (11004, .b false), (13001, .call [] [] (.v (.bool (in2_s (has_s i.op) 105)))), (13002, .b true), (13006, .b false)] (.cons h1002 (.cons h1006 (.cons (has_ok i.op ) (.cons (register2_ok (has_s i.op) 97 i.a (has_size _)) (.cons h4004 (.cons (register2_ok (has_s i.op) 98 i.b (has_size _)) (all8 h6004 (in2_ok (has_s i.op) 119 (by first | assumption | exact has_size _)) h8001 (register2_ok (has_s i.op) 99 i.c (has_size _)) h11004 (in2_ok (has_s i.op) 105 (by first | assumption | exact has_size _)) h13002 h13006))))))) (by kernel_rfl)
                · have p13006 := bne_iff_ne.1 h13006
                  exact ok_run Try.func76 rfl rfl mixed 400 [(0, .nm 101), (1002, .b false), (1006, .b false), (3002, .call [] [] (.v (.string (has_s i.op)))), (4003, .call [] [] (.v (.bool (register2_s (has_s i.op) 97 i.a)))), (4004, .b false), (6003, .call [] [] (.v (.bool (register2_s (has_s i.op) 98 i.b)))), (6004, .b false), (8001, .two (.call [] [] (.v (.bool (in2_s (has_s i.op) 119)))) (.b false)), (11003, .call [] [] (.v (.bool (register2_s (has_s i.op) 99 i.c)))), (11004, .b false), (13001, .call [] [] (.v (.bool (in2_s (has_s i.op) 105)))), (13002, .b true), (13006, .b true)] (.cons h1002 (.cons h1006 (.cons (has_ok i.op ) (.cons (register2_ok (has_s i.op) 97 i.a (has_size _)) (.cons h4004 (.cons (register2_ok (has_s i.op) 98 i.b (has_size _)) (all8 h6004 (in2_ok (has_s i.op) 119 (by first | assumption | exact has_size _)) h8001 (register2_ok (has_s i.op) 99 i.c (has_size _)) h11004 (in2_ok (has_s i.op) 105 (by first | assumption | exact has_size _)) h13002 h13006))))))) (by kernel_rfl)
            · have p11004 := notT h11004
              exact ok_run Try.func76 rfl rfl mixed 400 [(0, .nm 101), (1002, .b false), (1006, .b false), (3002, .call [] [] (.v (.string (has_s i.op)))), (4003, .call [] [] (.v (.bool (register2_s (has_s i.op) 97 i.a)))), (4004, .b false), (6003, .call [] [] (.v (.bool (register2_s (has_s i.op) 98 i.b)))), (6004, .b false), (8001, .two (.call [] [] (.v (.bool (in2_s (has_s i.op) 119)))) (.b false)), (11003, .call [] [] (.v (.bool (register2_s (has_s i.op) 99 i.c)))), (11004, .b true)] (.cons h1002 (.cons h1006 (.cons (has_ok i.op ) (all8 (register2_ok (has_s i.op) 97 i.a (has_size _)) h4004 (register2_ok (has_s i.op) 98 i.b (has_size _)) h6004 (in2_ok (has_s i.op) 119 (by first | assumption | exact has_size _)) h8001 (register2_ok (has_s i.op) 99 i.c (has_size _)) h11004)))) (by kernel_rfl)
          · cases h9002 : (i.c != (1 : Int))
            · have p9002 := bne_eq_false_iff_eq.1 h9002
              cases h13002 : (!(in2_s (has_s i.op) 105))
              · have p13002 := notF h13002
                exact ok_run Try.func76 rfl rfl mixed 400 [(0, .nm 101), (1002, .b false), (1006, .b false), (3002, .call [] [] (.v (.string (has_s i.op)))), (4003, .call [] [] (.v (.bool (register2_s (has_s i.op) 97 i.a)))), (4004, .b false), (6003, .call [] [] (.v (.bool (register2_s (has_s i.op) 98 i.b)))), (6004, .b false), (8001, .two (.call [] [] (.v (.bool (in2_s (has_s i.op) 119)))) (.b true)), (9002, .b false), (13001, .call [] [] (.v (.bool (in2_s (has_s i.op) 105)))), (13002, .b false)] (.cons h1002 (.cons h1006 (.cons (has_ok i.op ) (.cons (register2_ok (has_s i.op) 97 i.a (has_size _)) (all8 h4004 (register2_ok (has_s i.op) 98 i.b (has_size _)) h6004 (in2_ok (has_s i.op) 119 (by first | assumption | exact has_size _)) h8001 h9002 (in2_ok (has_s i.op) 105 (by first | assumption | exact has_size _)) h13002))))) (by kernel_rfl)
              · have p13002 := notT h13002
                cases h13006 : (i.imm != (0 : Int))
                · have p13006 := bne_eq_false_iff_eq.1 h13006
                  exact ok_run Try.func76 rfl rfl mixed 400 [(0, .nm 101), (1002, .b false), (1006, .b false), (3002, .call [] [] (.v (.string (has_s i.op)))), (4003, .call [] [] (.v (.bool (register2_s (has_s i.op) 97 i.a)))), (4004, .b false), (6003, .call [] [] (.v (.bool (register2_s (has_s i.op) 98 i.b)))), (6004, .b false), (8001, .two (.call [] [] (.v (.bool (in2_s (has_s i.op) 119)))) (.b true)), (9002, .b false), (13001, .call [] [] (.v (.bool (in2_s (has_s i.op) 105)))), (13002, .b true), (13006, .b false)] (.cons h1002 (.cons h1006 (.cons (has_ok i.op ) (.cons (register2_ok (has_s i.op) 97 i.a (has_size _)) (.cons h4004 (all8 (register2_ok (has_s i.op) 98 i.b (has_size _)) h6004 (in2_ok (has_s i.op) 119 (by first | assumption | exact has_size _)) h8001 h9002 (in2_ok (has_s i.op) 105 (by first | assumption | exact has_size _)) h13002 h13006)))))) (by kernel_rfl)
                · have p13006 := bne_iff_ne.1 h13006
                  exact ok_run Try.func76 rfl rfl mixed 400 [(0, .nm 101), (1002, .b false), (1006, .b false), (3002, .call [] [] (.v (.string (has_s i.op)))), (4003, .call [] [] (.v (.bool (register2_s (has_s i.op) 97 i.a)))), (4004, .b false), (6003, .call [] [] (.v (.bool (register2_s (has_s i.op) 98 i.b)))), (6004, .b false), (8001, .two (.call [] [] (.v (.bool (in2_s (has_s i.op) 119)))) (.b true)), (9002, .b false), (13001, .call [] [] (.v (.bool (in2_s (has_s i.op) 105)))), (13002, .b true), (13006, .b true)] (.cons h1002 (.cons h1006 (.cons (has_ok i.op ) (.cons (register2_ok (has_s i.op) 97 i.a (has_size _)) (.cons h4004 (all8 (register2_ok (has_s i.op) 98 i.b (has_size _)) h6004 (in2_ok (has_s i.op) 119 (by first | assumption | exact has_size _)) h8001 h9002 (in2_ok (has_s i.op) 105 (by first | assumption | exact has_size _)) h13002 h13006)))))) (by kernel_rfl)
            · have p9002 := bne_iff_ne.1 h9002
              cases h9006 : (i.c != (2 : Int))
              · have p9006 := bne_eq_false_iff_eq.1 h9006
                cases h13002 : (!(in2_s (has_s i.op) 105))
                · have p13002 := notF h13002
                  exact ok_run Try.func76 rfl rfl mixed 400 [(0, .nm 101), (1002, .b false), (1006, .b false), (3002, .call [] [] (.v (.string (has_s i.op)))), (4003, .call [] [] (.v (.bool (register2_s (has_s i.op) 97 i.a)))), (4004, .b false), (6003, .call [] [] (.v (.bool (register2_s (has_s i.op) 98 i.b)))), (6004, .b false), (8001, .two (.call [] [] (.v (.bool (in2_s (has_s i.op) 119)))) (.b true)), (9002, .b true), (9006, .b false), (13001, .call [] [] (.v (.bool (in2_s (has_s i.op) 105)))), (13002, .b false)] (.cons h1002 (.cons h1006 (.cons (has_ok i.op ) (.cons (register2_ok (has_s i.op) 97 i.a (has_size _)) (.cons h4004 (all8 (register2_ok (has_s i.op) 98 i.b (has_size _)) h6004 (in2_ok (has_s i.op) 119 (by first | assumption | exact has_size _)) h8001 h9002 h9006 (in2_ok (has_s i.op) 105 (by first | assumption | exact has_size _)) h13002)))))) (by kernel_rfl)
                · have p13002 := notT h13002
                  cases h13006 : (i.imm != (0 : Int))
                  · have p13006 := bne_eq_false_iff_eq.1 h13006
                    exact ok_run Try.func76 rfl rfl mixed 400 [(0, .nm 101), (1002, .b false), (1006, .b false), (3002, .call [] [] (.v (.string (has_s i.op)))), (4003, .call [] [] (.v (.bool (register2_s (has_s i.op) 97 i.a)))), (4004, .b false), (6003, .call [] [] (.v (.bool (register2_s (has_s i.op) 98 i.b)))), (6004, .b false), (8001, .two (.call [] [] (.v (.bool (in2_s (has_s i.op) 119)))) (.b true)), (9002, .b true), (9006, .b false), (13001, .call [] [] (.v (.bool (in2_s (has_s i.op) 105)))), (13002, .b true), (13006, .b false)] (.cons h1002 (.cons h1006 (.cons (has_ok i.op ) (.cons (register2_ok (has_s i.op) 97 i.a (has_size _)) (.cons h4004 (.cons (register2_ok (has_s i.op) 98 i.b (has_size _)) (all8 h6004 (in2_ok (has_s i.op) 119 (by first | assumption | exact has_size _)) h8001 h9002 h9006 (in2_ok (has_s i.op) 105 (by first | assumption | exact has_size _)) h13002 h13006))))))) (by kernel_rfl)
                  · have p13006 := bne_iff_ne.1 h13006
                    exact ok_run Try.func76 rfl rfl mixed 400 [(0, .nm 101), (1002, .b false), (1006, .b false), (3002, .call [] [] (.v (.string (has_s i.op)))), (4003, .call [] [] (.v (.bool (register2_s (has_s i.op) 97 i.a)))), (4004, .b false), (6003, .call [] [] (.v (.bool (register2_s (has_s i.op) 98 i.b)))), (6004, .b false), (8001, .two (.call [] [] (.v (.bool (in2_s (has_s i.op) 119)))) (.b true)), (9002, .b true), (9006, .b false), (13001, .call [] [] (.v (.bool (in2_s (has_s i.op) 105)))), (13002, .b true), (13006, .b true)] (.cons h1002 (.cons h1006 (.cons (has_ok i.op ) (.cons (register2_ok (has_s i.op) 97 i.a (has_size _)) (.cons h4004 (.cons (register2_ok (has_s i.op) 98 i.b (has_size _)) (all8 h6004 (in2_ok (has_s i.op) 119 (by first | assumption | exact has_size _)) h8001 h9002 h9006 (in2_ok (has_s i.op) 105 (by first | assumption | exact has_size _)) h13002 h13006))))))) (by kernel_rfl)
              · have p9006 := bne_iff_ne.1 h9006
                cases h9011 : (i.c != (4 : Int))
                · have p9011 := bne_eq_false_iff_eq.1 h9011
                  cases h13002 : (!(in2_s (has_s i.op) 105))
                  · have p13002 := notF h13002
                    exact ok_run Try.func76 rfl rfl mixed 400 [(0, .nm 101), (1002, .b false), (1006, .b false), (3002, .call [] [] (.v (.string (has_s i.op)))), (4003, .call [] [] (.v (.bool (register2_s (has_s i.op) 97 i.a)))), (4004, .b false), (6003, .call [] [] (.v (.bool (register2_s (has_s i.op) 98 i.b)))), (6004, .b false), (8001, .two (.call [] [] (.v (.bool (in2_s (has_s i.op) 119)))) (.b true)), (9002, .b true), (9006, .b true), (9011, .b false), (13001, .call [] [] (.v (.bool (in2_s (has_s i.op) 105)))), (13002, .b false)] (.cons h1002 (.cons h1006 (.cons (has_ok i.op ) (.cons (register2_ok (has_s i.op) 97 i.a (has_size _)) (.cons h4004 (.cons (register2_ok (has_s i.op) 98 i.b (has_size _)) (all8 h6004 (in2_ok (has_s i.op) 119 (by first | assumption | exact has_size _)) h8001 h9002 h9006 h9011 (in2_ok (has_s i.op) 105 (by first | assumption | exact has_size _)) h13002))))))) (by kernel_rfl)
                  · have p13002 := notT h13002
                    cases h13006 : (i.imm != (0 : Int))
                    · have p13006 := bne_eq_false_iff_eq.1 h13006
                      exact ok_run Try.func76 rfl rfl mixed 400 [(0, .nm 101), (1002, .b false), (1006, .b false), (3002, .call [] [] (.v (.string (has_s i.op)))), (4003, .call [] [] (.v (.bool (register2_s (has_s i.op) 97 i.a)))), (4004, .b false), (6003, .call [] [] (.v (.bool (register2_s (has_s i.op) 98 i.b)))), (6004, .b false), (8001, .two (.call [] [] (.v (.bool (in2_s (has_s i.op) 119)))) (.b true)), (9002, .b true), (9006, .b true), (9011, .b false), (13001, .call [] [] (.v (.bool (in2_s (has_s i.op) 105)))), (13002, .b true), (13006, .b false)] (.cons h1002 (.cons h1006 (.cons (has_ok i.op ) (.cons (register2_ok (has_s i.op) 97 i.a (has_size _)) (.cons h4004 (.cons (register2_ok (has_s i.op) 98 i.b (has_size _)) (.cons h6004 (all8 (in2_ok (has_s i.op) 119 (by first | assumption | exact has_size _)) h8001 h9002 h9006 h9011 (in2_ok (has_s i.op) 105 (by first | assumption | exact has_size _)) h13002 h13006)))))))) (by kernel_rfl)
                    · have p13006 := bne_iff_ne.1 h13006
                      exact ok_run Try.func76 rfl rfl mixed 400 [(0, .nm 101), (1002, .b false), (1006, .b false), (3002, .call [] [] (.v (.string (has_s i.op)))), (4003, .call [] [] (.v (.bool (register2_s (has_s i.op) 97 i.a)))), (4004, .b false), (6003, .call [] [] (.v (.bool (register2_s (has_s i.op) 98 i.b)))), (6004, .b false), (8001, .two (.call [] [] (.v (.bool (in2_s (has_s i.op) 119)))) (.b true)), (9002, .b true), (9006, .b true), (9011, .b false), (13001, .call [] [] (.v (.bool (in2_s (has_s i.op) 105)))), (13002, .b true), (13006, .b true)] (.cons h1002 (.cons h1006 (.cons (has_ok i.op ) (.cons (register2_ok (has_s i.op) 97 i.a (has_size _)) (.cons h4004 (.cons (register2_ok (has_s i.op) 98 i.b (has_size _)) (.cons h6004 (all8 (in2_ok (has_s i.op) 119 (by first | assumption | exact has_size _)) h8001 h9002 h9006 h9011 (in2_ok (has_s i.op) 105 (by first | assumption | exact has_size _)) h13002 h13006)))))))) (by kernel_rfl)
                · have p9011 := bne_iff_ne.1 h9011
                  cases h9016 : (i.c != (8 : Int))
                  · have p9016 := bne_eq_false_iff_eq.1 h9016
                    cases h13002 : (!(in2_s (has_s i.op) 105))
                    · have p13002 := notF h13002
                      exact ok_run Try.func76 rfl rfl mixed 400 [(0, .nm 101), (1002, .b false), (1006, .b false), (3002, .call [] [] (.v (.string (has_s i.op)))), (4003, .call [] [] (.v (.bool (register2_s (has_s i.op) 97 i.a)))), (4004, .b false), (6003, .call [] [] (.v (.bool (register2_s (has_s i.op) 98 i.b)))), (6004, .b false), (8001, .two (.call [] [] (.v (.bool (in2_s (has_s i.op) 119)))) (.b true)), (9002, .b true), (9006, .b true), (9011, .b true), (9016, .b false), (13001, .call [] [] (.v (.bool (in2_s (has_s i.op) 105)))), (13002, .b false)] (.cons h1002 (.cons h1006 (.cons (has_ok i.op ) (.cons (register2_ok (has_s i.op) 97 i.a (has_size _)) (.cons h4004 (.cons (register2_ok (has_s i.op) 98 i.b (has_size _)) (.cons h6004 (all8 (in2_ok (has_s i.op) 119 (by first | assumption | exact has_size _)) h8001 h9002 h9006 h9011 h9016 (in2_ok (has_s i.op) 105 (by first | assumption | exact has_size _)) h13002)))))))) (by kernel_rfl)
                    · have p13002 := notT h13002
                      cases h13006 : (i.imm != (0 : Int))
                      · have p13006 := bne_eq_false_iff_eq.1 h13006
                        exact ok_run Try.func76 rfl rfl mixed 400 [(0, .nm 101), (1002, .b false), (1006, .b false), (3002, .call [] [] (.v (.string (has_s i.op)))), (4003, .call [] [] (.v (.bool (register2_s (has_s i.op) 97 i.a)))), (4004, .b false), (6003, .call [] [] (.v (.bool (register2_s (has_s i.op) 98 i.b)))), (6004, .b false), (8001, .two (.call [] [] (.v (.bool (in2_s (has_s i.op) 119)))) (.b true)), (9002, .b true), (9006, .b true), (9011, .b true), (9016, .b false), (13001, .call [] [] (.v (.bool (in2_s (has_s i.op) 105)))), (13002, .b true), (13006, .b false)] (.cons h1002 (.cons h1006 (.cons (has_ok i.op ) (.cons (register2_ok (has_s i.op) 97 i.a (has_size _)) (.cons h4004 (.cons (register2_ok (has_s i.op) 98 i.b (has_size _)) (.cons h6004 (.cons (in2_ok (has_s i.op) 119 (by first | assumption | exact has_size _)) (all8 h8001 h9002 h9006 h9011 h9016 (in2_ok (has_s i.op) 105 (by first | assumption | exact has_size _)) h13002 h13006))))))))) (by kernel_rfl)
                      · have p13006 := bne_iff_ne.1 h13006
                        exact ok_run Try.func76 rfl rfl mixed 400 [(0, .nm 101), (1002, .b false), (1006, .b false), (3002, .call [] [] (.v (.string (has_s i.op)))), (4003, .call [] [] (.v (.bool (register2_s (has_s i.op) 97 i.a)))), (4004, .b false), (6003, .call [] [] (.v (.bool (register2_s (has_s i.op) 98 i.b)))), (6004, .b false), (8001, .two (.call [] [] (.v (.bool (in2_s (has_s i.op) 119)))) (.b true)), (9002, .b true), (9006, .b true), (9011, .b true), (9016, .b false), (13001, .call [] [] (.v (.bool (in2_s (has_s i.op) 105)))), (13002, .b true), (13006, .b true)] (.cons h1002 (.cons h1006 (.cons (has_ok i.op ) (.cons (register2_ok (has_s i.op) 97 i.a (has_size _)) (.cons h4004 (.cons (register2_ok (has_s i.op) 98 i.b (has_size _)) (.cons h6004 (.cons (in2_ok (has_s i.op) 119 (by first | assumption | exact has_size _)) (all8 h8001 h9002 h9006 h9011 h9016 (in2_ok (has_s i.op) 105 (by first | assumption | exact has_size _)) h13002 h13006))))))))) (by kernel_rfl)
                  · have p9016 := bne_iff_ne.1 h9016
                    exact ok_run Try.func76 rfl rfl mixed 400 [(0, .nm 101), (1002, .b false), (1006, .b false), (3002, .call [] [] (.v (.string (has_s i.op)))), (4003, .call [] [] (.v (.bool (register2_s (has_s i.op) 97 i.a)))), (4004, .b false), (6003, .call [] [] (.v (.bool (register2_s (has_s i.op) 98 i.b)))), (6004, .b false), (8001, .two (.call [] [] (.v (.bool (in2_s (has_s i.op) 119)))) (.b true)), (9002, .b true), (9006, .b true), (9011, .b true), (9016, .b true)] (.cons h1002 (.cons h1006 (.cons (has_ok i.op ) (.cons (register2_ok (has_s i.op) 97 i.a (has_size _)) (.cons h4004 (all8 (register2_ok (has_s i.op) 98 i.b (has_size _)) h6004 (in2_ok (has_s i.op) 119 (by first | assumption | exact has_size _)) h8001 h9002 h9006 h9011 h9016)))))) (by kernel_rfl)
        · have p6004 := notT h6004
          exact ok_run Try.func76 rfl rfl mixed 400 [(0, .nm 101), (1002, .b false), (1006, .b false), (3002, .call [] [] (.v (.string (has_s i.op)))), (4003, .call [] [] (.v (.bool (register2_s (has_s i.op) 97 i.a)))), (4004, .b false), (6003, .call [] [] (.v (.bool (register2_s (has_s i.op) 98 i.b)))), (6004, .b true)] (all7 h1002 h1006 (has_ok i.op ) (register2_ok (has_s i.op) 97 i.a (has_size _)) h4004 (register2_ok (has_s i.op) 98 i.b (has_size _)) h6004) (by kernel_rfl)
      · have p4004 := notT h4004
        exact ok_run Try.func76 rfl rfl mixed 400 [(0, .nm 101), (1002, .b false), (1006, .b false), (3002, .call [] [] (.v (.string (has_s i.op)))), (4003, .call [] [] (.v (.bool (register2_s (has_s i.op) 97 i.a)))), (4004, .b true)] (all5 h1002 h1006 (has_ok i.op ) (register2_ok (has_s i.op) 97 i.a (has_size _)) h4004) (by kernel_rfl)
    · have p1006 := of_decide_eq_true h1006
      exact ok_run Try.func76 rfl rfl mixed 400 [(0, .nm 101), (1002, .b false), (1006, .b true)] (all2 h1002 h1006) (by kernel_rfl)
  · have p1002 := of_decide_eq_true h1002
    exact ok_run Try.func76 rfl rfl mixed 400 [(0, .nm 101), (1002, .b true)] (all1 h1002) (by kernel_rfl)

def rput_l0 (i : Ins) : Nat → Int → Int → List Int → List Int × Int
  | 0, _, _, _ => default
  | m + 1, k, x, out => (bif decide (k ≥ (0 : Int)) then (rput_l0 i m (k - 1) (IntKind.u64.wrap (x.tdiv 256)) (out.set ((k).toNat) (IntKind.u8.wrap (x.tmod 256)))) else ((([IntKind.u8.wrap (i.op), IntKind.u8.wrap (i.a), IntKind.u8.wrap (i.b), IntKind.u8.wrap (i.c)] : List Int) ++ out), (0 : Int)))
set_option maxRecDepth 100000 in
theorem rput_lok0 (i : Ins)  : ∀ (m : Nat) (k : Int) (x : Int) (out : List Int), (-1 ≤ k) → (k ≤ 7) → (out.length = 8) → ((k : Int) + 1).toNat < m → Good Try.prog 39 Try.f39.ntmps (look []) false (.tup [.ro 1 (((rput_l0 i m k x out).1).length) (((rput_l0 i m k x out).1).map eb), .v (.int .i64 ((rput_l0 i m k x out).2))]) (postOf [] []) (headAt Try.f39 0) [(1, .ptr 101 0), (2, .v (.slice none 0 0)), (3, .v (.int .i64 0)), (5, .own 102), (6, .v (.int .u64 x)), (7, .v (.int .i64 k))] [(101, .cells [.v (.int .i64 i.op), .v (.int .i64 i.a), .v (.int .i64 i.b), .v (.int .i64 i.c), .v (.int .u64 i.imm)] 41), (102, .row 1 5 out.length ((out).map eb))] := by
  intro m
  induction m with
  | zero => intro k x out i1 i2 i3 hm; exact absurd hm (Nat.not_lt_zero _)
  | succ m ih =>
    intro k x out i1 i2 i3 hm
    rw [rput_l0]
    cases h9001 : (decide (k ≥ (0 : Int)))
    · have p9001 := of_decide_eq_false h9001
      refine Good.freeze1 (n := 152) (e := 5) (res := .tup [.own 152, .v (.int .i64 0)]) ?_ rfl rfl
      exact good_run (ch := [(152, .row 1 5 ((([IntKind.u8.wrap (i.op), IntKind.u8.wrap (i.a), IntKind.u8.wrap (i.b), IntKind.u8.wrap (i.c)] : List Int) ++ out).length) ((([IntKind.u8.wrap (i.op), IntKind.u8.wrap (i.a), IntKind.u8.wrap (i.b), IntKind.u8.wrap (i.c)] : List Int) ++ out).map eb))]) Try.func39 mixed 400 [(9001, .b false), (13012, .app 151 (([IntKind.u8.wrap (i.op), IntKind.u8.wrap (i.a), IntKind.u8.wrap (i.b), IntKind.u8.wrap (i.c)] : List Int).length) (([IntKind.u8.wrap (i.op), IntKind.u8.wrap (i.a), IntKind.u8.wrap (i.b), IntKind.u8.wrap (i.c)] : List Int).map eb)), (13014, .app 152 ((([IntKind.u8.wrap (i.op), IntKind.u8.wrap (i.a), IntKind.u8.wrap (i.b), IntKind.u8.wrap (i.c)] : List Int) ++ out).length) ((([IntKind.u8.wrap (i.op), IntKind.u8.wrap (i.a), IntKind.u8.wrap (i.b), IntKind.u8.wrap (i.c)] : List Int) ++ out).map eb))] (all6 h9001 (And.intro (Eq.refl (([IntKind.u8.wrap (i.op), IntKind.u8.wrap (i.a), IntKind.u8.wrap (i.b), IntKind.u8.wrap (i.c)] : List Int).map eb)) (Eq.refl (([IntKind.u8.wrap (i.op), IntKind.u8.wrap (i.a), IntKind.u8.wrap (i.b), IntKind.u8.wrap (i.c)] : List Int).length))) (oneE eb (fun _ => rfl) out) (show (([IntKind.u8.wrap (i.op), IntKind.u8.wrap (i.a), IntKind.u8.wrap (i.b), IntKind.u8.wrap (i.c)] : List Int).length + out.length) * 1 ≤ 140737488355328 by (first | omega | (simp only [List.length_append, List.length_cons, List.length_nil, List.length_map, List.length_take, List.length_drop, List.length_replicate, maxLen] <;> omega))) (show ([IntKind.u8.wrap (i.op), IntKind.u8.wrap (i.a), IntKind.u8.wrap (i.b), IntKind.u8.wrap (i.c)] : List Int).length + out.length ≤ maxLen by (first | omega | (simp only [List.length_append, List.length_cons, List.length_nil, List.length_map, List.length_take, List.length_drop, List.length_replicate, maxLen] <;> omega))) (appE eb ([IntKind.u8.wrap (i.op), IntKind.u8.wrap (i.a), IntKind.u8.wrap (i.b), IntKind.u8.wrap (i.c)] : List Int) out)) (by kernel_rfl)
    · have p9001 := of_decide_eq_true h9001
      refine good_head (T := [(1, .ptr 101 0), (2, .v (.slice none 0 0)), (3, .v (.int .i64 0)), (5, .own 102), (6, .v (.int .u64 (IntKind.u64.wrap (x.tdiv 256)))), (7, .v (.int .i64 (k - 1)))]) (H := [(101, .cells [.v (.int .i64 i.op), .v (.int .i64 i.a), .v (.int .i64 i.b), .v (.int .i64 i.c), .v (.int .u64 i.imm)] 41), (102, .row 1 5 ((out.set ((k).toNat) (IntKind.u8.wrap (x.tmod 256))).length) ((out.set ((k).toNat) (IntKind.u8.wrap (x.tmod 256))).map eb))]) (todo' := headAt Try.f39 0) Try.func39 mixed 400 [(9001, .b true), (11006, .put (eb (out.getD ((k).toNat) 0)) ((out.set ((k).toNat) (IntKind.u8.wrap (x.tmod 256))).length) ((out.set ((k).toNat) (IntKind.u8.wrap (x.tmod 256))).map eb)), (10001, .as_ (.v (.int .i64 (k - 1))))] (all6 h9001 (show (0 : Int) ≤ k by omega) (show (k : Int) < out.length by omega) (getg (l := out) (n := (k).toNat) eb 0 (by omega)) (setE eb out ((k).toNat) (IntKind.u8.wrap (x.tmod 256)) (cv := [.int .u8 (IntKind.u8.wrap (x.tmod 256))]) (e := eb (out.getD ((k).toNat) 0)) rfl) (wr64 (x := k - 1) (by omega))) (by kernel_rfl) ?_
      exact ih (k - 1) (IntKind.u64.wrap (x.tdiv 256)) (out.set ((k).toNat) (IntKind.u8.wrap (x.tmod 256))) (by omega) (by omega) (by (first | omega | (simp only [List.length_set, List.length_append, List.length_cons, List.length_nil, List.length_map, List.length_take, List.length_drop, List.length_replicate] <;> omega) | (simp only [List.length_set, List.length_append, List.length_cons, List.length_nil, List.length_map, List.length_take, List.length_drop, List.length_replicate] at * <;> omega))) (by omega)
def rput_s (i : Ins) : List Int × Int := (bif (rwrong_s i) == (0 : Int) then (([] : List Int), (4 : Int)) else (bif decide ((rwrong_s i) > (0 : Int)) then (([] : List Int), (5 : Int)) else (rput_l0 i ((((7) : Int) + 1).toNat + 1) 7 i.imm (List.replicate 8 (0 : Int)))))
set_option maxRecDepth 100000 in
theorem rput_ok (i : Ins)  : Ok Try.prog 39 [.agg [.v (.int .i64 i.op), .v (.int .i64 i.a), .v (.int .i64 i.b), .v (.int .i64 i.c), .v (.int .u64 i.imm)]] (look []) (.tup [.ro 1 (((rput_s i).1).length) (((rput_s i).1).map eb), .v (.int .i64 ((rput_s i).2))]) (postOf [] []) := by
  unfold rput_s
  cases h2001 : ((rwrong_s i) == (0 : Int))
  · have p2001 := ne_of_beq_false h2001
    cases h4001 : (decide ((rwrong_s i) > (0 : Int)))
    · have p4001 := of_decide_eq_false h4001
      refine ok_head (T := [(1, .ptr 101 0), (2, .v (.slice none 0 0)), (3, .v (.int .i64 0)), (5, .own 102), (6, .v (.int .u64 i.imm)), (7, .v (.int .i64 7))]) (H := [(101, .cells [.v (.int .i64 i.op), .v (.int .i64 i.a), .v (.int .i64 i.b), .v (.int .i64 i.c), .v (.int .u64 i.imm)] 41), (102, .row 1 5 ((List.replicate 8 (0 : Int)).length) ((List.replicate 8 (0 : Int)).map eb))]) (todo := headAt Try.f39 0) Try.func39 rfl rfl mixed 400 [(0, .nm 101), (1001, .call [] [] (.v (.int .i64 (rwrong_s i)))), (2001, .b false), (4001, .b false), (6000, .app 102 ((List.replicate 8 (0 : Int)).length) ((List.replicate 8 (0 : Int)).map eb))] (all7 (rwrong_ok i) h2001 h4001 (And.intro (show (0 : Int) ≤ 8 by decide) (show (8 : Int) ≤ 8 by omega)) (show (8 : Int) * 1 ≤ 281474976710656 by omega) (show (8 : Int) ≤ 9223372036854775807 by omega) (repE eb 8 0)) (by kernel_rfl) ?_
      exact rput_lok0 i _ 7 i.imm (List.replicate 8 (0 : Int)) (by omega) (by omega) (by (first | omega | (simp only [List.length_set, List.length_append, List.length_cons, List.length_nil, List.length_map, List.length_take, List.length_drop, List.length_replicate] <;> omega) | (simp only [List.length_set, List.length_append, List.length_cons, List.length_nil, List.length_map, List.length_take, List.length_drop, List.length_replicate] at * <;> omega))) (Nat.lt_succ_self _)
    · have p4001 := of_decide_eq_true h4001
      refine Ok.le (res := .tup [.v (.slice none 0 0), .v (.int .i64 5)]) ?_ (by repeat (first | exact LeA.refl _ | exact LeA.nil _ | exact LeL.nil | apply LeA.tup | apply LeA.agg | apply LeA.vagg | apply LeL.cons | apply LeA.ifc))
      exact ok_run Try.func39 rfl rfl mixed 400 [(0, .nm 101), (1001, .call [] [] (.v (.int .i64 (rwrong_s i)))), (2001, .b false), (4001, .b true)] (all3 (rwrong_ok i) h2001 h4001) (by kernel_rfl)
  · have p2001 := eq_of_beq h2001
    refine Ok.le (res := .tup [.v (.slice none 0 0), .v (.int .i64 4)]) ?_ (by repeat (first | exact LeA.refl _ | exact LeA.nil _ | exact LeL.nil | apply LeA.tup | apply LeA.agg | apply LeA.vagg | apply LeL.cons | apply LeA.ifc))
    exact ok_run Try.func39 rfl rfl mixed 400 [(0, .nm 101), (1001, .call [] [] (.v (.int .i64 (rwrong_s i)))), (2001, .b true)] (all2 (rwrong_ok i) h2001) (by kernel_rfl)

def rstray_l0 (p : Img) : Nat → Int → Int
  | 0, _ => default
  | m + 1, i => (bif decide (i < (p.code.length : Int)) then (bif (goes2_s ((p.code.getD ((i).toNat) default).op)) then (bif (i + 1) == (p.code.length : Int) then i else (bif (rfun_s p (i + 1)) != (rfun_s p i) then i else (bif ((p.code.getD ((i).toNat) default).op) == (21 : Int) then (bif decide (((p.code.getD ((i).toNat) default).imm) ≥ (IntKind.u64.wrap ((p.code.length : Int)))) then i else (bif (rfun_s p (IntKind.i64.wrap ((p.code.getD ((i).toNat) default).imm))) != (rfun_s p i) then i else (bif ((p.code.getD ((i).toNat) default).op) == (23 : Int) then (bif decide (((p.code.getD ((i).toNat) default).imm) ≥ (IntKind.u64.wrap ((p.funs.length : Int)))) then i else (rstray_l0 p m (i + 1))) else (rstray_l0 p m (i + 1))))) else (bif ((p.code.getD ((i).toNat) default).op) == (22 : Int) then (bif decide (((p.code.getD ((i).toNat) default).imm) ≥ (IntKind.u64.wrap ((p.code.length : Int)))) then i else (bif (rfun_s p (IntKind.i64.wrap ((p.code.getD ((i).toNat) default).imm))) != (rfun_s p i) then i else (bif ((p.code.getD ((i).toNat) default).op) == (23 : Int) then (bif decide (((p.code.getD ((i).toNat) default).imm) ≥ (IntKind.u64.wrap ((p.funs.length : Int)))) then i else (rstray_l0 p m (i + 1))) else (rstray_l0 p m (i + 1))))) else (bif ((p.code.getD ((i).toNat) default).op) == (23 : Int) then (bif decide (((p.code.getD ((i).toNat) default).imm) ≥ (IntKind.u64.wrap ((p.funs.length : Int)))) then i else (rstray_l0 p m (i + 1))) else (rstray_l0 p m (i + 1))))))) else (bif ((p.code.getD ((i).toNat) default).op) == (21 : Int) then (bif decide (((p.code.getD ((i).toNat) default).imm) ≥ (IntKind.u64.wrap ((p.code.length : Int)))) then i else (bif (rfun_s p (IntKind.i64.wrap ((p.code.getD ((i).toNat) default).imm))) != (rfun_s p i) then i else (bif ((p.code.getD ((i).toNat) default).op) == (23 : Int) then (bif decide (((p.code.getD ((i).toNat) default).imm) ≥ (IntKind.u64.wrap ((p.funs.length : Int)))) then i else (rstray_l0 p m (i + 1))) else (rstray_l0 p m (i + 1))))) else (bif ((p.code.getD ((i).toNat) default).op) == (22 : Int) then (bif decide (((p.code.getD ((i).toNat) default).imm) ≥ (IntKind.u64.wrap ((p.code.length : Int)))) then i else (bif (rfun_s p (IntKind.i64.wrap ((p.code.getD ((i).toNat) default).imm))) != (rfun_s p i) then i else (bif ((p.code.getD ((i).toNat) default).op) == (23 : Int) then (bif decide (((p.code.getD ((i).toNat) default).imm) ≥ (IntKind.u64.wrap ((p.funs.length : Int)))) then i else (rstray_l0 p m (i + 1))) else (rstray_l0 p m (i + 1))))) else (bif ((p.code.getD ((i).toNat) default).op) == (23 : Int) then (bif decide (((p.code.getD ((i).toNat) default).imm) ≥ (IntKind.u64.wrap ((p.funs.length : Int)))) then i else (rstray_l0 p m (i + 1))) else (rstray_l0 p m (i + 1)))))) else (-1 : Int))
set_option maxRecDepth 100000 in
theorem rstray_lok0 (p : Img) (hp : Small p) : ∀ (m : Nat) (i : Int), (0 ≤ i) → (i ≤ p.code.length) → p.code.length - (i : Int).toNat < m → Good Try.prog 40 Try.f40.ntmps (look []) false (.v (.int .i64 (rstray_l0 p m i))) (postOf [] []) (headAt Try.f40 0) [(1, .ptr 101 0), (2, .v (.int .i64 0)), (3, .v (.int .i64 i))] [(101, .cells [.v (.int .i64 p.mem), .v (.int .i64 p.stack), .v (.int .i64 p.input), .ro 1 p.data.length ((p.data).map eb), .ro 1 p.funs.length ((p.funs).map ei), .ro 5 p.code.length ((p.code).map eIns)] 26)] := by
  intro m
  induction m with
  | zero => intro i i1 i2 hm; exact absurd hm (Nat.not_lt_zero _)
  | succ m ih =>
    intro i i1 i2 hm
    rw [rstray_l0]
    have := hp.1; have := hp.2.1; have := hp.2.2
    cases h2004 : (decide (i < (p.code.length : Int)))
    · have p2004 := of_decide_eq_false h2004
      exact good_run Try.func40 mixed 400 [(2004, .b false)] (all1 h2004) (by kernel_rfl)
    · have p2004 := of_decide_eq_true h2004
      cases h6002 : ((goes2_s ((p.code.getD ((i).toNat) default).op)))
      · cases h8002 : (((p.code.getD ((i).toNat) default).op) == (21 : Int))
        · have p8002 := ne_of_beq_false h8002
          cases h8006 : (((p.code.getD ((i).toNat) default).op) == (22 : Int))
          · have p8006 := ne_of_beq_false h8006
            cases h11002 : (((p.code.getD ((i).toNat) default).op) == (23 : Int))
            · have p11002 := ne_of_beq_false h11002
              refine good_head (T := [(1, .ptr 101 0), (2, .v (.int .i64 0)), (3, .v (.int .i64 (i + 1)))]) (H := [(101, .cells [.v (.int .i64 p.mem), .v (.int .i64 p.stack), .v (.int .i64 p.input), .ro 1 p.data.length ((p.data).map eb), .ro 1 p.funs.length ((p.funs).map ei), .ro 5 p.code.length ((p.code).map eIns)] 26)]) (todo' := headAt Try.f40 0) Try.func40 mixed 400 [(2004, .b true), (4003, .el (eIns (p.code.getD ((i).toNat) default))), (4005, .nm 151), (5002, .call [] [] (.v (.int .i64 (rfun_s p i)))), (6002, .two (.call [] [] (.v (.bool (goes2_s ((p.code.getD ((i).toNat) default).op))))) (.b false)), (8002, .b false), (8006, .b false), (11002, .b false), (3001, .as_ (.v (.int .i64 (i + 1))))] (.cons h2004 (.cons (show (0 : Int) ≤ i by omega) (all8 (getg (l := p.code) (n := (i).toNat) eIns default (by omega)) (rfun_ok p i hp) (goes2_ok ((p.code.getD ((i).toNat) default).op) ) h6002 h8002 h8006 h11002 (wr64 (x := i + 1) (by omega))))) (by kernel_rfl) ?_
              exact ih (i + 1) (by omega) (by omega) (by omega)
            · have p11002 := eq_of_beq h11002
              cases h11010 : (decide (((p.code.getD ((i).toNat) default).imm) ≥ (IntKind.u64.wrap ((p.funs.length : Int)))))
              · have p11010 := of_decide_eq_false h11010
                refine good_head (T := [(1, .ptr 101 0), (2, .v (.int .i64 0)), (3, .v (.int .i64 (i + 1)))]) (H := [(101, .cells [.v (.int .i64 p.mem), .v (.int .i64 p.stack), .v (.int .i64 p.input), .ro 1 p.data.length ((p.data).map eb), .ro 1 p.funs.length ((p.funs).map ei), .ro 5 p.code.length ((p.code).map eIns)] 26)]) (todo' := headAt Try.f40 0) Try.func40 mixed 400 [(2004, .b true), (4003, .el (eIns (p.code.getD ((i).toNat) default))), (4005, .nm 151), (5002, .call [] [] (.v (.int .i64 (rfun_s p i)))), (6002, .two (.call [] [] (.v (.bool (goes2_s ((p.code.getD ((i).toNat) default).op))))) (.b false)), (8002, .b false), (8006, .b false), (11002, .b true), (11010, .b false), (3001, .as_ (.v (.int .i64 (i + 1))))] (.cons h2004 (.cons (show (0 : Int) ≤ i by omega) (.cons (getg (l := p.code) (n := (i).toNat) eIns default (by omega)) (all8 (rfun_ok p i hp) (goes2_ok ((p.code.getD ((i).toNat) default).op) ) h6002 h8002 h8006 h11002 h11010 (wr64 (x := i + 1) (by omega)))))) (by kernel_rfl) ?_
                exact ih (i + 1) (by omega) (by omega) (by omega)
              · have p11010 := of_decide_eq_true h11010
                exact good_run Try.func40 mixed 400 [(2004, .b true), (4003, .el (eIns (p.code.getD ((i).toNat) default))), (4005, .nm 151), (5002, .call [] [] (.v (.int .i64 (rfun_s p i)))), (6002, .two (.call [] [] (.v (.bool (goes2_s ((p.code.getD ((i).toNat) default).op))))) (.b false)), (8002, .b false), (8006, .b false), (11002, .b true), (11010, .b true)] (.cons h2004 (.cons (show (0 : Int) ≤ i by omega) (all8 (getg (l := p.code) (n := (i).toNat) eIns default (by omega)) (rfun_ok p i hp) (goes2_ok ((p.code.getD ((i).toNat) default).op) ) h6002 h8002 h8006 h11002 h11010))) (by kernel_rfl)
          · have p8006 := eq_of_beq h8006
            cases h9006 : (decide (((p.code.getD ((i).toNat) default).imm) ≥ (IntKind.u64.wrap ((p.code.length : Int)))))
            · have p9006 := of_decide_eq_false h9006
              cases h9014 : ((rfun_s p (IntKind.i64.wrap ((p.code.getD ((i).toNat) default).imm))) != (rfun_s p i))
              · have p9014 := bne_eq_false_iff_eq.1 h9014
                cases h11002 : (((p.code.getD ((i).toNat) default).op) == (23 : Int))
                · have p11002 := ne_of_beq_false h11002
                  refine good_head (T := [(1, .ptr 101 0), (2, .v (.int .i64 0)), (3, .v (.int .i64 (i + 1)))]) (H := [(101, .cells [.v (.int .i64 p.mem), .v (.int .i64 p.stack), .v (.int .i64 p.input), .ro 1 p.data.length ((p.data).map eb), .ro 1 p.funs.length ((p.funs).map ei), .ro 5 p.code.length ((p.code).map eIns)] 26)]) (todo' := headAt Try.f40 0) Try.func40 mixed 400 [(2004, .b true), (4003, .el (eIns (p.code.getD ((i).toNat) default))), (4005, .nm 151), (5002, .call [] [] (.v (.int .i64 (rfun_s p i)))), (6002, .two (.call [] [] (.v (.bool (goes2_s ((p.code.getD ((i).toNat) default).op))))) (.b false)), (8002, .b false), (8006, .b true), (9006, .b false), (9012, .call [] [] (.v (.int .i64 (rfun_s p (IntKind.i64.wrap ((p.code.getD ((i).toNat) default).imm)))))), (9014, .b false), (11002, .b false), (3001, .as_ (.v (.int .i64 (i + 1))))] (.cons h2004 (.cons (show (0 : Int) ≤ i by omega) (.cons (getg (l := p.code) (n := (i).toNat) eIns default (by omega)) (.cons (rfun_ok p i hp) (.cons (goes2_ok ((p.code.getD ((i).toNat) default).op) ) (all8 h6002 h8002 h8006 h9006 (rfun_ok p (IntKind.i64.wrap ((p.code.getD ((i).toNat) default).imm)) hp) h9014 h11002 (wr64 (x := i + 1) (by omega)))))))) (by kernel_rfl) ?_
                  exact ih (i + 1) (by omega) (by omega) (by omega)
                · have p11002 := eq_of_beq h11002
                  cases h11010 : (decide (((p.code.getD ((i).toNat) default).imm) ≥ (IntKind.u64.wrap ((p.funs.length : Int)))))
                  · have p11010 := of_decide_eq_false h11010
                    refine good_head (T := [(1, .ptr 101 0), (2, .v (.int .i64 0)), (3, .v (.int .i64 (i + 1)))]) (H := [(101, .cells [.v (.int .i64 p.mem), .v (.int .i64 p.stack), .v (.int .i64 p.input), .ro 1 p.data.length ((p.data).map eb), .ro 1 p.funs.length ((p.funs).map ei), .ro 5 p.code.length ((p.code).map eIns)] 26)]) (todo' := headAt Try.f40 0) Try.func40 mixed 400 [(2004, .b true), (4003, .el (eIns (p.code.getD ((i).toNat) default))), (4005, .nm 151), (5002, .call [] [] (.v (.int .i64 (rfun_s p i)))), (6002, .two (.call [] [] (.v (.bool (goes2_s ((p.code.getD ((i).toNat) default).op))))) (.b false)), (8002, .b false), (8006, .b true), (9006, .b false), (9012, .call [] [] (.v (.int .i64 (rfun_s p (IntKind.i64.wrap ((p.code.getD ((i).toNat) default).imm)))))), (9014, .b false), (11002, .b true), (11010, .b false), (3001, .as_ (.v (.int .i64 (i + 1))))] (.cons h2004 (.cons (show (0 : Int) ≤ i by omega) (.cons (getg (l := p.code) (n := (i).toNat) eIns default (by omega)) (.cons (rfun_ok p i hp) (.cons (goes2_ok ((p.code.getD ((i).toNat) default).op) ) (.cons h6002 (all8 h8002 h8006 h9006 (rfun_ok p (IntKind.i64.wrap ((p.code.getD ((i).toNat) default).imm)) hp) h9014 h11002 h11010 (wr64 (x := i + 1) (by omega))))))))) (by kernel_rfl) ?_
                    exact ih (i + 1) (by omega) (by omega) (by omega)
                  · have p11010 := of_decide_eq_true h11010
                    exact good_run Try.func40 mixed 400 [(2004, .b true), (4003, .el (eIns (p.code.getD ((i).toNat) default))), (4005, .nm 151), (5002, .call [] [] (.v (.int .i64 (rfun_s p i)))), (6002, .two (.call [] [] (.v (.bool (goes2_s ((p.code.getD ((i).toNat) default).op))))) (.b false)), (8002, .b false), (8006, .b true), (9006, .b false), (9012, .call [] [] (.v (.int .i64 (rfun_s p (IntKind.i64.wrap ((p.code.getD ((i).toNat) default).imm)))))), (9014, .b false), (11002, .b true), (11010, .b true)] (.cons h2004 (.cons (show (0 : Int) ≤ i by omega) (.cons (getg (l := p.code) (n := (i).toNat) eIns default (by omega)) (.cons (rfun_ok p i hp) (.cons (goes2_ok ((p.code.getD ((i).toNat) default).op) ) (all8 h6002 h8002 h8006 h9006 (rfun_ok p (IntKind.i64.wrap ((p.code.getD ((i).toNat) default).imm)) hp) h9014 h11002 h11010)))))) (by kernel_rfl)
              · have p9014 := bne_iff_ne.1 h9014
                exact good_run Try.func40 mixed 400 [(2004, .b true), (4003, .el (eIns (p.code.getD ((i).toNat) default))), (4005, .nm 151), (5002, .call [] [] (.v (.int .i64 (rfun_s p i)))), (6002, .two (.call [] [] (.v (.bool (goes2_s ((p.code.getD ((i).toNat) default).op))))) (.b false)), (8002, .b false), (8006, .b true), (9006, .b false), (9012, .call [] [] (.v (.int .i64 (rfun_s p (IntKind.i64.wrap ((p.code.getD ((i).toNat) default).imm)))))), (9014, .b true)] (.cons h2004 (.cons (show (0 : Int) ≤ i by omega) (.cons (getg (l := p.code) (n := (i).toNat) eIns default (by omega)) (all8 (rfun_ok p i hp) (goes2_ok ((p.code.getD ((i).toNat) default).op) ) h6002 h8002 h8006 h9006 (rfun_ok p (IntKind.i64.wrap ((p.code.getD ((i).toNat) default).imm)) hp) h9014)))) (by kernel_rfl)
            · have p9006 := of_decide_eq_true h9006
              exact good_run Try.func40 mixed 400 [(2004, .b true), (4003, .el (eIns (p.code.getD ((i).toNat) default))), (4005, .nm 151), (5002, .call [] [] (.v (.int .i64 (rfun_s p i)))), (6002, .two (.call [] [] (.v (.bool (goes2_s ((p.code.getD ((i).toNat) default).op))))) (.b false)), (8002, .b false), (8006, .b true), (9006, .b true)] (.cons h2004 (all8 (show (0 : Int) ≤ i by omega) (getg (l := p.code) (n := (i).toNat) eIns default (by omega)) (rfun_ok p i hp) (goes2_ok ((p.code.getD ((i).toNat) default).op) ) h6002 h8002 h8006 h9006)) (by kernel_rfl)
        · have p8002 := eq_of_beq h8002
          cases h9006 : (decide (((p.code.getD ((i).toNat) default).imm) ≥ (IntKind.u64.wrap ((p.code.length : Int)))))
          · have p9006 := of_decide_eq_false h9006
            cases h9014 : ((rfun_s p (IntKind.i64.wrap ((p.code.getD ((i).toNat) default).imm))) != (rfun_s p i))
            · have p9014 := bne_eq_false_iff_eq.1 h9014
              cases h11002 : (((p.code.getD ((i).toNat) default).op) == (23 : Int))
              · have p11002 := ne_of_beq_false h11002
                refine good_head (T := [(1, .ptr 101 0), (2, .v (.int .i64 0)), (3, .v (.int .i64 (i + 1)))]) (H := [(101, .cells [.v (.int .i64 p.mem), .v (.int .i64 p.stack), .v (.int .i64 p.input), .ro 1 p.data.length ((p.data).map eb), .ro 1 p.funs.length ((p.funs).map ei), .ro 5 p.code.length ((p.code).map eIns)] 26)]) (todo' := headAt Try.f40 0) Try.func40 mixed 400 [(2004, .b true), (4003, .el (eIns (p.code.getD ((i).toNat) default))), (4005, .nm 151), (5002, .call [] [] (.v (.int .i64 (rfun_s p i)))), (6002, .two (.call [] [] (.v (.bool (goes2_s ((p.code.getD ((i).toNat) default).op))))) (.b false)), (8002, .b true), (9006, .b false), (9012, .call [] [] (.v (.int .i64 (rfun_s p (IntKind.i64.wrap ((p.code.getD ((i).toNat) default).imm)))))), (9014, .b false), (11002, .b false), (3001, .as_ (.v (.int .i64 (i + 1))))] (.cons h2004 (.cons (show (0 : Int) ≤ i by omega) (.cons (getg (l := p.code) (n := (i).toNat) eIns default (by omega)) (.cons (rfun_ok p i hp) (all8 (goes2_ok ((p.code.getD ((i).toNat) default).op) ) h6002 h8002 h9006 (rfun_ok p (IntKind.i64.wrap ((p.code.getD ((i).toNat) default).imm)) hp) h9014 h11002 (wr64 (x := i + 1) (by omega))))))) (by kernel_rfl) ?_
                exact ih (i + 1) (by omega) (by omega) (by omega)
              · have p11002 := eq_of_beq h11002
                cases h11010 : (decide (((p.code.getD ((i).toNat) default).imm) ≥ (IntKind.u64.wrap ((p.funs.length : Int)))))
                · have p11010 := of_decide_eq_false h11010
                  refine good_head (T := [(1, .ptr 101 0), (2, .v (.int .i64 0)), (3, .v (.int .i64 (i + 1)))]) (H := [(101, .cells [.v (.int .i64 p.mem), .v (.int .i64 p.stack), .v (.int .i64 p.input), .ro 1 p.data.length ((p.data).map eb), .ro 1 p.funs.length ((p.funs).map ei), .ro 5 p.code.length ((p.code).map eIns)] 26)]) (todo' := headAt Try.f40 0) Try.func40 mixed 400 [(2004, .b true), (4003, .el (eIns (p.code.getD ((i).toNat) default))), (4005, .nm 151), (5002, .call [] [] (.v (.int .i64 (rfun_s p i)))), (6002, .two (.call [] [] (.v (.bool (goes2_s ((p.code.getD ((i).toNat) default).op))))) (.b false)), (8002, .b true), (9006, .b false), (9012, .call [] [] (.v (.int .i64 (rfun_s p (IntKind.i64.wrap ((p.code.getD ((i).toNat) default).imm)))))), (9014, .b false), (11002, .b true), (11010, .b false), (3001, .as_ (.v (.int .i64 (i + 1))))] (.cons h2004 (.cons (show (0 : Int) ≤ i by omega) (.cons (getg (l := p.code) (n := (i).toNat) eIns default (by omega)) (.cons (rfun_ok p i hp) (.cons (goes2_ok ((p.code.getD ((i).toNat) default).op) ) (all8 h6002 h8002 h9006 (rfun_ok p (IntKind.i64.wrap ((p.code.getD ((i).toNat) default).imm)) hp) h9014 h11002 h11010 (wr64 (x := i + 1) (by omega)))))))) (by kernel_rfl) ?_
                  exact ih (i + 1) (by omega) (by omega) (by omega)
                · have p11010 := of_decide_eq_true h11010
                  exact good_run Try.func40 mixed 400 [(2004, .b true), (4003, .el (eIns (p.code.getD ((i).toNat) default))), (4005, .nm 151), (5002, .call [] [] (.v (.int .i64 (rfun_s p i)))), (6002, .two (.call [] [] (.v (.bool (goes2_s ((p.code.getD ((i).toNat) default).op))))) (.b false)), (8002, .b true), (9006, .b false), (9012, .call [] [] (.v (.int .i64 (rfun_s p (IntKind.i64.wrap ((p.code.getD ((i).toNat) default).imm)))))), (9014, .b false), (11002, .b true), (11010, .b true)] (.cons h2004 (.cons (show (0 : Int) ≤ i by omega) (.cons (getg (l := p.code) (n := (i).toNat) eIns default (by omega)) (.cons (rfun_ok p i hp) (all8 (goes2_ok ((p.code.getD ((i).toNat) default).op) ) h6002 h8002 h9006 (rfun_ok p (IntKind.i64.wrap ((p.code.getD ((i).toNat) default).imm)) hp) h9014 h11002 h11010))))) (by kernel_rfl)
            · have p9014 := bne_iff_ne.1 h9014
              exact good_run Try.func40 mixed 400 [(2004, .b true), (4003, .el (eIns (p.code.getD ((i).toNat) default))), (4005, .nm 151), (5002, .call [] [] (.v (.int .i64 (rfun_s p i)))), (6002, .two (.call [] [] (.v (.bool (goes2_s ((p.code.getD ((i).toNat) default).op))))) (.b false)), (8002, .b true), (9006, .b false), (9012, .call [] [] (.v (.int .i64 (rfun_s p (IntKind.i64.wrap ((p.code.getD ((i).toNat) default).imm)))))), (9014, .b true)] (.cons h2004 (.cons (show (0 : Int) ≤ i by omega) (all8 (getg (l := p.code) (n := (i).toNat) eIns default (by omega)) (rfun_ok p i hp) (goes2_ok ((p.code.getD ((i).toNat) default).op) ) h6002 h8002 h9006 (rfun_ok p (IntKind.i64.wrap ((p.code.getD ((i).toNat) default).imm)) hp) h9014))) (by kernel_rfl)
          · have p9006 := of_decide_eq_true h9006
            exact good_run Try.func40 mixed 400 [(2004, .b true), (4003, .el (eIns (p.code.getD ((i).toNat) default))), (4005, .nm 151), (5002, .call [] [] (.v (.int .i64 (rfun_s p i)))), (6002, .two (.call [] [] (.v (.bool (goes2_s ((p.code.getD ((i).toNat) default).op))))) (.b false)), (8002, .b true), (9006, .b true)] (all8 h2004 (show (0 : Int) ≤ i by omega) (getg (l := p.code) (n := (i).toNat) eIns default (by omega)) (rfun_ok p i hp) (goes2_ok ((p.code.getD ((i).toNat) default).op) ) h6002 h8002 h9006) (by kernel_rfl)
      · cases h6009 : ((i + 1) == (p.code.length : Int))
        · have p6009 := ne_of_beq_false h6009
          cases h6016 : ((rfun_s p (i + 1)) != (rfun_s p i))
          · have p6016 := bne_eq_false_iff_eq.1 h6016
            cases h8002 : (((p.code.getD ((i).toNat) default).op) == (21 : Int))
            · have p8002 := ne_of_beq_false h8002
              cases h8006 : (((p.code.getD ((i).toNat) default).op) == (22 : Int))
              · have p8006 := ne_of_beq_false h8006
                cases h11002 : (((p.code.getD ((i).toNat) default).op) == (23 : Int))
                · have p11002 := ne_of_beq_false h11002
                  refine good_head (T := [(1, .ptr 101 0), (2, .v (.int .i64 0)), (3, .v (.int .i64 (i + 1)))]) (H := [(101, .cells [.v (.int .i64 p.mem), .v (.int .i64 p.stack), .v (.int .i64 p.input), .ro 1 p.data.length ((p.data).map eb), .ro 1 p.funs.length ((p.funs).map ei), .ro 5 p.code.length ((p.code).map eIns)] 26)]) (todo' := headAt Try.f40 0) Try.func40 mixed 400 [(2004, .b true), (4003, .el (eIns (p.code.getD ((i).toNat) default))), (4005, .nm 151), (5002, .call [] [] (.v (.int .i64 (rfun_s p i)))), (6002, .two (.call [] [] (.v (.bool (goes2_s ((p.code.getD ((i).toNat) default).op))))) (.b true)), (6005, .as_ (.v (.int .i64 (i + 1)))), (6009, .b false), (6013, .as_ (.v (.int .i64 (i + 1)))), (6014, .call [] [] (.v (.int .i64 (rfun_s p (i + 1))))), (6016, .b false), (8002, .b false), (8006, .b false), (11002, .b false), (3001, .as_ (.v (.int .i64 (i + 1))))] (.cons h2004 (.cons (show (0 : Int) ≤ i by omega) (.cons (getg (l := p.code) (n := (i).toNat) eIns default (by omega)) (.cons (rfun_ok p i hp) (.cons (goes2_ok ((p.code.getD ((i).toNat) default).op) ) (.cons h6002 (.cons (wr64 (x := i + 1) (by omega)) (all8 h6009 (wr64 (x := i + 1) (by omega)) (rfun_ok p (i + 1) hp) h6016 h8002 h8006 h11002 (wr64 (x := i + 1) (by omega)))))))))) (by kernel_rfl) ?_
                  exact ih (i + 1) (by omega) (by omega) (by omega)
                · have p11002 := eq_of_beq h11002
                  cases h11010 : (decide (((p.code.getD ((i).toNat) default).imm) ≥ (IntKind.u64.wrap ((p.funs.length : Int)))))
                  · have p11010 := of_decide_eq_false h11010
                    refine good_head (T := [(1, .ptr 101 0), (2, .v (.int .i64 0)), (3, .v (.int .i64 (i + 1)))]) (H := [(101, .cells [.v (.int .i64 p.mem), .v (.int .i64 p.stack), .v (.int .i64 p.input), .ro 1 p.data.length ((p.data).map eb), .ro 1 p.funs.length ((p.funs).map ei), .ro 5 p.code.length ((p.code).map eIns)] 26)]) (todo' := headAt Try.f40 0) Try.func40 mixed 400 [(2004, .b true), (4003, .el (eIns (p.code.getD ((i).toNat) default))), (4005, .nm 151), (5002, .call [] [] (.v (.int .i64 (rfun_s p i)))), (6002, .two (.call [] [] (.v (.bool (goes2_s ((p.code.getD ((i).toNat) default).op))))) (.b true)), (6005, .as_ (.v (.int .i64 (i + 1)))), (6009, .b false), (6013, .as_ (.v (.int .i64 (i + 1)))), (6014, .call [] [] (.v (.int .i64 (rfun_s p (i + 1))))), (6016, .b false), (8002, .b false), (8006, .b false), (11002, .b true), (11010, .b false), (3001, .as_ (.v (.int .i64 (i + 1))))] (.cons h2004 (.cons (show (0 : Int) ≤ i by omega) (.cons (getg (l := p.code) (n := (i).toNat) eIns default (by omega)) (.cons (rfun_ok p i hp) (.cons (goes2_ok ((p.code.getD ((i).toNat) default).op) ) (.cons h6002 (.cons (wr64 (x := i + 1) (by omega)) (.cons h6009 (all8 (wr64 (x := i + 1) (by omega)) (rfun_ok p (i + 1) hp) h6016 h8002 h8006 h11002 h11010 (wr64 (x := i + 1) (by omega))))))))))) (by kernel_rfl) ?_
                    exact ih (i + 1) (by omega) (by omega) (by omega)
                  · have p11010 := of_decide_eq_true h11010
                    exact good_run Try.func40 mixed 400 [(2004, .b true), (4003, .el (eIns (p.code.getD ((i).toNat) default))), (4005, .nm 151), (5002, .call [] [] (.v (.int .i64 (rfun_s p i)))), (6002, .two (.call [] [] (.v (.bool (goes2_s ((p.code.getD ((i).toNat) default).op))))) (.b true)), (6005, .as_ (.v (.int .i64 (i + 1)))), (6009, .b false), (6013, .as_ (.v (.int .i64 (i + 1)))), (6014, .call [] [] (.v (.int .i64 (rfun_s p (i + 1))))), (6016, .b false), (8002, .b false), (8006, .b false), (11002, .b true), (11010, .b true)] (.cons h2004 (.cons (show (0 : Int) ≤ i by omega) (.cons (getg (l := p.code) (n := (i).toNat) eIns default (by omega)) (.cons (rfun_ok p i hp) (.cons (goes2_ok ((p.code.getD ((i).toNat) default).op) ) (.cons h6002 (.cons (wr64 (x := i + 1) (by omega)) (all8 h6009 (wr64 (x := i + 1) (by omega)) (rfun_ok p (i + 1) hp) h6016 h8002 h8006 h11002 h11010)))))))) (by kernel_rfl)
              · have p8006 := eq_of_beq h8006
                cases h9006 : (decide (((p.code.getD ((i).toNat) default).imm) ≥ (IntKind.u64.wrap ((p.code.length : Int)))))
                · have p9006 := of_decide_eq_false h9006
                  cases h9014 : ((rfun_s p (IntKind.i64.wrap ((p.code.getD ((i).toNat) default).imm))) != (rfun_s p i))
                  · have p9014 := bne_eq_false_iff_eq.1 h9014
                    cases h11002 : (((p.code.getD ((i).toNat) default).op) == (23 : Int))
                    · have p11002 := ne_of_beq_false h11002
                      refine good_head (T := [(1, .ptr 101 0), (2, .v (.int .i64 0)), (3, .v (.int .i64 (i + 1)))]) (H := [(101, .cells [.v (.int .i64 p.mem), .v (.int .i64 p.stack), .v (.int .i64 p.input), .ro 1 p.data.length ((p.data).map eb), .ro 1 p.funs.length ((p.funs).map ei), .ro 5 p.code.length ((p.code).map eIns)] 26)]) (todo' := headAt Try.f40 0) Try.func40 mixed 400 [(2004, .b true), (4003, .el (eIns (p.code.getD ((i).toNat) default))), (4005, .nm 151), (5002, .call [] [] (.v (.int .i64 (rfun_s p i)))), (6002, .two (.call [] [] (.v (.bool (goes2_s ((p.code.getD ((i).toNat) default).op))))) (.b true)), (6005, .as_ (.v (.int .i64 (i + 1)))), (6009, .b false), (6013, .as_ (.v (.int .i64 (i + 1)))), (6014, .call [] [] (.v (.int .i64 (rfun_s p (i + 1))))), (6016, .b false), (8002, .b false), (8006, .b true), (9006, .b false), (9012, .call [] [] (.v (.int .i64 (rfun_s p (IntKind.i64.wrap ((p.code.getD ((i).toNat) default).imm)))))), (9014, .b false), (11002, .b false), (3001, .as_ (.v (.int .i64 (i + 1))))] (.cons h2004 (.cons (show (0 : Int) ≤ i by omega) (.cons (getg (l := p.code) (n := (i).toNat) eIns default (by omega)) (.cons (rfun_ok p i hp) (.cons (goes2_ok ((p.code.getD ((i).toNat) default).op) ) (.cons h6002 (.cons (wr64 (x := i + 1) (by omega)) (.cons h6009 (.cons (wr64 (x := i + 1) (by omega)) (.cons (rfun_ok p (i + 1) hp) (all8 h6016 h8002 h8006 h9006 (rfun_ok p (IntKind.i64.wrap ((p.code.getD ((i).toNat) default).imm)) hp) h9014 h11002 (wr64 (x := i + 1) (by omega))))))))))))) (by kernel_rfl) ?_
                      exact ih (i + 1) (by omega) (by omega) (by omega)
                    · have p11002 := eq_of_beq h11002
                      cases h11010 : (decide (((p.code.getD ((i).toNat) default).imm) ≥ (IntKind.u64.wrap ((p.funs.length : Int)))))
                      · have p11010 := of_decide_eq_false h11010
                        refine good_head (T := [(1, .ptr 101 0), (2, .v (.int .i64 0)), (3, .v (.int .i64 (i + 1)))]) (H := [(101, .cells [.v (.int .i64 p.mem), .v (.int .i64 p.stack), .v (.int .i64 p.input), .ro 1 p.data.length ((p.data).map eb), .ro 1 p.funs.length ((p.funs).map ei), .ro 5 p.code.length ((p.code).map eIns)] 26)]) (todo' := headAt Try.f40 0) Try.func40 mixed 400 [(2004, .b true), (4003, .el (eIns (p.code.getD ((i).toNat) default))), (4005, .nm 151), (5002, .call [] [] (.v (.int .i64 (rfun_s p i)))), (6002, .two (.call [] [] (.v (.bool (goes2_s ((p.code.getD ((i).toNat) default).op))))) (.b true)), (6005, .as_ (.v (.int .i64 (i + 1)))), (6009, .b false), (6013, .as_ (.v (.int .i64 (i + 1)))), (6014, .call [] [] (.v (.int .i64 (rfun_s p (i + 1))))), (6016, .b false), (8002, .b false), (8006, .b true), (9006, .b false), (9012, .call [] [] (.v (.int .i64 (rfun_s p (IntKind.i64.wrap ((p.code.getD ((i).toNat) default).imm)))))), (9014, .b false), (11002, .b true), (11010, .b false), (3001, .as_ (.v (.int .i64 (i + 1))))] (.cons h2004 (.cons (show (0 : Int) ≤ i by omega) (.cons (getg (l := p.code) (n := (i).toNat) eIns default (by omega)) (.cons (rfun_ok p i hp) (.cons (goes2_ok ((p.code.getD ((i).toNat) default).op) ) (.cons h6002 (.cons (wr64 (x := i + 1) (by omega)) (.cons h6009 (.cons (wr64 (x := i + 1) (by omega)) (.cons (rfun_ok p (i + 1) hp) (.cons h6016 (all8 h8002 h8006 h9006 (rfun_ok p (IntKind.i64.wrap ((p.code.getD ((i).toNat) default).imm)) hp) h9014 h11002 h11010 (wr64 (x := i + 1) (by omega)))))))))))))) (by kernel_rfl) ?_
                        exact ih (i + 1) (by omega) (by omega) (by omega)
                      · have p11010 := of_decide_eq_true h11010
                        exact good_run Try.func40 mixed 400 [(2004, .b true), (4003, .el (eIns (p.code.getD ((i).toNat) default))), (4005, .nm 151), (5002, .call [] [] (.v (.int .i64 (rfun_s p i)))), (6002, .two (.call [] [] (.v (.bool (goes2_s ((p.code.getD ((i).toNat) default).op))))) (.b true)), (6005, .as_ (.v (.int .i64 (i + 1)))), (6009, .b false), (6013, .as_ (.v (.int .i64 (i + 1)))), (6014, .call [] [] (.v (.int .i64 (rfun_s p (i + 1))))), (6016, .b false), (8002, .b false), (8006, .b true), (9006, .b false), (9012, .call [] [] (.v (.int .i64 (rfun_s p (IntKind.i64.wrap ((p.code.getD ((i).toNat) default).imm)))))), (9014, .b false), (11002, .b true), (11010, .b true)] (.cons h2004 (.cons (show (0 : Int) ≤ i by omega) (.cons (getg (l := p.code) (n := (i).toNat) eIns default (by omega)) (.cons (rfun_ok p i hp) (.cons (goes2_ok ((p.code.getD ((i).toNat) default).op) ) (.cons h6002 (.cons (wr64 (x := i + 1) (by omega)) (.cons h6009 (.cons (wr64 (x := i + 1) (by omega)) (.cons (rfun_ok p (i + 1) hp) (all8 h6016 h8002 h8006 h9006 (rfun_ok p (IntKind.i64.wrap ((p.code.getD ((i).toNat) default).imm)) hp) h9014 h11002 h11010))))))))))) (by kernel_rfl)
                  · have p9014 := bne_iff_ne.1 h9014
                    exact good_run Try.func40 mixed 400 [(2004, .b true), (4003, .el (eIns (p.code.getD ((i).toNat) default))), (4005, .nm 151), (5002, .call [] [] (.v (.int .i64 (rfun_s p i)))), (6002, .two (.call [] [] (.v (.bool (goes2_s ((p.code.getD ((i).toNat) default).op))))) (.b true)), (6005, .as_ (.v (.int .i64 (i + 1)))), (6009, .b false), (6013, .as_ (.v (.int .i64 (i + 1)))), (6014, .call [] [] (.v (.int .i64 (rfun_s p (i + 1))))), (6016, .b false), (8002, .b false), (8006, .b true), (9006, .b false), (9012, .call [] [] (.v (.int .i64 (rfun_s p (IntKind.i64.wrap ((p.code.getD ((i).toNat) default).imm)))))), (9014, .b true)] (.cons h2004 (.cons (show (0 : Int) ≤ i by omega) (.cons (getg (l := p.code) (n := (i).toNat) eIns default (by omega)) (.cons (rfun_ok p i hp) (.cons (goes2_ok ((p.code.getD ((i).toNat) default).op) ) (.cons h6002 (.cons (wr64 (x := i + 1) (by omega)) (.cons h6009 (all8 (wr64 (x := i + 1) (by omega)) (rfun_ok p (i + 1) hp) h6016 h8002 h8006 h9006 (rfun_ok p (IntKind.i64.wrap ((p.code.getD ((i).toNat) default).imm)) hp) h9014))))))))) (by kernel_rfl)
                · have p9006 := of_decide_eq_true h9006
                  exact good_run Try.func40 mixed 400 [(2004, .b true), (4003, .el (eIns (p.code.getD ((i).toNat) default))), (4005, .nm 151), (5002, .call [] [] (.v (.int .i64 (rfun_s p i)))), (6002, .two (.call [] [] (.v (.bool (goes2_s ((p.code.getD ((i).toNat) default).op))))) (.b true)), (6005, .as_ (.v (.int .i64 (i + 1)))), (6009, .b false), (6013, .as_ (.v (.int .i64 (i + 1)))), (6014, .call [] [] (.v (.int .i64 (rfun_s p (i + 1))))), (6016, .b false), (8002, .b false), (8006, .b true), (9006, .b true)] (.cons h2004 (.cons (show (0 : Int) ≤ i by omega) (.cons (getg (l := p.code) (n := (i).toNat) eIns default (by omega)) (.cons (rfun_ok p i hp) (.cons (goes2_ok ((p.code.getD ((i).toNat) default).op) ) (.cons h6002 (all8 (wr64 (x := i + 1) (by omega)) h6009 (wr64 (x := i + 1) (by omega)) (rfun_ok p (i + 1) hp) h6016 h8002 h8006 h9006))))))) (by kernel_rfl)
            · have p8002 := eq_of_beq h8002
              cases h9006 : (decide (((p.code.getD ((i).toNat) default).imm) ≥ (IntKind.u64.wrap ((p.code.length : Int)))))
              · have p9006 := of_decide_eq_false h9006
                cases h9014 : ((rfun_s p (IntKind.i64.wrap ((p.code.getD ((i).toNat) default).imm))) != (rfun_s p i))
                · have p9014 := bne_eq_false_iff_eq.1 h9014
                  cases h11002 : (((p.code.getD ((i).toNat) default).op) == (23 : Int))
                  · have p11002 := ne_of_beq_false h11002
                    refine good_head (T := [(1, .ptr 101 0), (2, .v (.int .i64 0)), (3, .v (.int .i64 (i + 1)))]) (H := [(101, .cells [.v (.int .i64 p.mem), .v (.int .i64 p.stack), .v (.int .i64 p.input), .ro 1 p.data.length ((p.data).map eb), .ro 1 p.funs.length ((p.funs).map ei), .ro 5 p.code.length ((p.code).map eIns)] 26)]) (todo' := headAt Try.f40 0) Try.func40 mixed 400 [(2004, .b true), (4003, .el (eIns (p.code.getD ((i).toNat) default))), (4005, .nm 151), (5002, .call [] [] (.v (.int .i64 (rfun_s p i)))), (6002, .two (.call [] [] (.v (.bool (goes2_s ((p.code.getD ((i).toNat) default).op))))) (.b true)), (6005, .as_ (.v (.int .i64 (i + 1)))), (6009, .b false), (6013, .as_ (.v (.int .i64 (i + 1)))), (6014, .call [] [] (.v (.int .i64 (rfun_s p (i + 1))))), (6016, .b false), (8002, .b true), (9006, .b false), (9012, .call [] [] (.v (.int .i64 (rfun_s p (IntKind.i64.wrap ((p.code.getD ((i).toNat) default).imm)))))), (9014, .b false), (11002, .b false), (3001, .as_ (.v (.int .i64 (i + 1))))] (.cons h2004 (.cons (show (0 : Int) ≤ i by omega) (.cons (getg (l := p.code) (n := (i).toNat) eIns default (by omega)) (.cons (rfun_ok p i hp) (.cons (goes2_ok ((p.code.getD ((i).toNat) default).op) ) (.cons h6002 (.cons (wr64 (x := i + 1) (by omega)) (.cons h6009 (.cons (wr64 (x := i + 1) (by omega)) (all8 (rfun_ok p (i + 1) hp) h6016 h8002 h9006 (rfun_ok p (IntKind.i64.wrap ((p.code.getD ((i).toNat) default).imm)) hp) h9014 h11002 (wr64 (x := i + 1) (by omega)))))))))))) (by kernel_rfl) ?_
                    exact ih (i + 1) (by omega) (by omega) (by omega)
                  · have p11002 := eq_of_beq h11002
                    cases h11010 : (decide (((p.code.getD ((i).toNat) default).imm) ≥ (IntKind.u64.wrap ((p.funs.length : Int)))))
                    · have p11010 := of_decide_eq_false h11010
                      refine good_head (T := [(1, .ptr 101 0), (2, .v (.int .i64 0)), (3, .v (.int .i64 (i + 1)))]) (H := [(101, .cells [.v (.int .i64 p.mem), .v (.int .i64 p.stack), .v (.int .i64 p.input), .ro 1 p.data.length ((p.data).map eb), .ro 1 p.funs.length ((p.funs).map ei), .ro 5 p.code.length ((p.code).map eIns)] 26)]) (todo' := headAt Try.f40 0) Try.func40 mixed 400 [(2004, .b true), (4003, .el (eIns (p.code.getD ((i).toNat) default))), (4005, .nm 151), (5002, .call [] [] (.v (.int .i64 (rfun_s p i)))), (6002, .two (.call [] [] (.v (.bool (goes2_s ((p.code.getD ((i).toNat) default).op))))) (.b true)), (6005, .as_ (.v (.int .i64 (i + 1)))), (6009, .b false), (6013, .as_ (.v (.int .i64 (i + 1)))), (6014, .call [] [] (.v (.int .i64 (rfun_s p (i + 1))))), (6016, .b false), (8002, .b true), (9006, .b false), (9012, .call [] [] (.v (.int .i64 (rfun_s p (IntKind.i64.wrap ((p.code.getD ((i).toNat) default).imm)))))), (9014, .b false), (11002, .b true), (11010, .b false), (3001, .as_ (.v (.int .i64 (i + 1))))] (.cons h2004 (.cons (show (0 : Int) ≤ i by omega) (.cons (getg (l := p.code) (n := (i).toNat) eIns default (by omega)) (.cons (rfun_ok p i hp) (.cons (goes2_ok ((p.code.getD ((i).toNat) default).op) ) (.cons h6002 (.cons (wr64 (x := i + 1) (by omega)) (.cons h6009 (.cons (wr64 (x := i + 1) (by omega)) (.cons (rfun_ok p (i + 1) hp) (all8 h6016 h8002 h9006 (rfun_ok p (IntKind.i64.wrap ((p.code.getD ((i).toNat) default).imm)) hp) h9014 h11002 h11010 (wr64 (x := i + 1) (by omega))))))))))))) (by kernel_rfl) ?_
                      exact ih (i + 1) (by omega) (by omega) (by omega)
                    · have p11010 := of_decide_eq_true h11010
                      exact good_run Try.func40 mixed 400 [(2004, .b true), (4003, .el (eIns (p.code.getD ((i).toNat) default))), (4005, .nm 151), (5002, .call [] [] (.v (.int .i64 (rfun_s p i)))), (6002, .two (.call [] [] (.v (.bool (goes2_s ((p.code.getD ((i).toNat) default).op))))) (.b true)), (6005, .as_ (.v (.int .i64 (i + 1)))), (6009, .b false), (6013, .as_ (.v (.int .i64 (i + 1)))), (6014, .call [] [] (.v (.int .i64 (rfun_s p (i + 1))))), (6016, .b false), (8002, .b true), (9006, .b false), (9012, .call [] [] (.v (.int .i64 (rfun_s p (IntKind.i64.wrap ((p.code.getD ((i).toNat) default).imm)))))), (9014, .b false), (11002, .b true), (11010, .b true)] (.cons h2004 (.cons (show (0 : Int) ≤ i by omega) (.cons (getg (l := p.code) (n := (i).toNat) eIns default (by omega)) (.cons (rfun_ok p i hp) (.cons (goes2_ok ((p.code.getD ((i).toNat) default).op) ) (.cons h6002 (.cons (wr64 (x := i + 1) (by omega)) (.cons h6009 (.cons (wr64 (x := i + 1) (by omega)) (all8 (rfun_ok p (i + 1) hp) h6016 h8002 h9006 (rfun_ok p (IntKind.i64.wrap ((p.code.getD ((i).toNat) default).imm)) hp) h9014 h11002 h11010)))))))))) (by kernel_rfl)
                · have p9014 := bne_iff_ne.1 h9014
                  exact good_run Try.func40 mixed 400 [(2004, .b true), (4003, .el (eIns (p.code.getD ((i).toNat) default))), (4005, .nm 151), (5002, .call [] [] (.v (.int .i64 (rfun_s p i)))), (6002, .two (.call [] [] (.v (.bool (goes2_s ((p.code.getD ((i).toNat) default).op))))) (.b true)), (6005, .as_ (.v (.int .i64 (i + 1)))), (6009, .b false), (6013, .as_ (.v (.int .i64 (i + 1)))), (6014, .call [] [] (.v (.int .i64 (rfun_s p (i + 1))))), (6016, .b false), (8002, .b true), (9006, .b false), (9012, .call [] [] (.v (.int .i64 (rfun_s p (IntKind.i64.wrap ((p.code.getD ((i).toNat) default).imm)))))), (9014, .b true)] (.cons h2004 (.cons (show (0 : Int) ≤ i by omega) (.cons (getg (l := p.code) (n := (i).toNat) eIns default (by omega)) (.cons (rfun_ok p i hp) (.cons (goes2_ok ((p.code.getD ((i).toNat) default).op) ) (.cons h6002 (.cons (wr64 (x := i + 1) (by omega)) (all8 h6009 (wr64 (x := i + 1) (by omega)) (rfun_ok p (i + 1) hp) h6016 h8002 h9006 (rfun_ok p (IntKind.i64.wrap ((p.code.getD ((i).toNat) default).imm)) hp) h9014)))))))) (by kernel_rfl)
              · have p9006 := of_decide_eq_true h9006
                exact good_run Try.func40 mixed 400 [(2004, .b true), (4003, .el (eIns (p.code.getD ((i).toNat) default))), (4005, .nm 151), (5002, .call [] [] (.v (.int .i64 (rfun_s p i)))), (6002, .two (.call [] [] (.v (.bool (goes2_s ((p.code.getD ((i).toNat) default).op))))) (.b true)), (6005, .as_ (.v (.int .i64 (i + 1)))), (6009, .b false), (6013, .as_ (.v (.int .i64 (i + 1)))), (6014, .call [] [] (.v (.int .i64 (rfun_s p (i + 1))))), (6016, .b false), (8002, .b true), (9006, .b true)] (.cons h2004 (.cons (show (0 : Int) ≤ i by omega) (.cons (getg (l := p.code) (n := (i).toNat) eIns default (by omega)) (.cons (rfun_ok p i hp) (.cons (goes2_ok ((p.code.getD ((i).toNat) default).op) ) (all8 h6002 (wr64 (x := i + 1) (by omega)) h6009 (wr64 (x := i + 1) (by omega)) (rfun_ok p (i + 1) hp) h6016 h8002 h9006)))))) (by kernel_rfl)
          · have p6016 := bne_iff_ne.1 h6016
            exact good_run Try.func40 mixed 400 [(2004, .b true), (4003, .el (eIns (p.code.getD ((i).toNat) default))), (4005, .nm 151), (5002, .call [] [] (.v (.int .i64 (rfun_s p i)))), (6002, .two (.call [] [] (.v (.bool (goes2_s ((p.code.getD ((i).toNat) default).op))))) (.b true)), (6005, .as_ (.v (.int .i64 (i + 1)))), (6009, .b false), (6013, .as_ (.v (.int .i64 (i + 1)))), (6014, .call [] [] (.v (.int .i64 (rfun_s p (i + 1))))), (6016, .b true)] (.cons h2004 (.cons (show (0 : Int) ≤ i by omega) (.cons (getg (l := p.code) (n := (i).toNat) eIns default (by omega)) (all8 (rfun_ok p i hp) (goes2_ok ((p.code.getD ((i).toNat) default).op) ) h6002 (wr64 (x := i + 1) (by omega)) h6009 (wr64 (x := i + 1) (by omega)) (rfun_ok p (i + 1) hp) h6016)))) (by kernel_rfl)
        · have p6009 := eq_of_beq h6009
          exact good_run Try.func40 mixed 400 [(2004, .b true), (4003, .el (eIns (p.code.getD ((i).toNat) default))), (4005, .nm 151), (5002, .call [] [] (.v (.int .i64 (rfun_s p i)))), (6002, .two (.call [] [] (.v (.bool (goes2_s ((p.code.getD ((i).toNat) default).op))))) (.b true)), (6005, .as_ (.v (.int .i64 (i + 1)))), (6009, .b true)] (all8 h2004 (show (0 : Int) ≤ i by omega) (getg (l := p.code) (n := (i).toNat) eIns default (by omega)) (rfun_ok p i hp) (goes2_ok ((p.code.getD ((i).toNat) default).op) ) h6002 (wr64 (x := i + 1) (by omega)) h6009) (by kernel_rfl)
def rstray_s (p : Img) : Int := (rstray_l0 p (p.code.length - ((0) : Int).toNat + 1) 0)
set_option maxRecDepth 100000 in
theorem rstray_ok (p : Img) (hp : Small p) : Ok Try.prog 40 [.agg [.v (.int .i64 p.mem), .v (.int .i64 p.stack), .v (.int .i64 p.input), .ro 1 p.data.length ((p.data).map eb), .ro 1 p.funs.length ((p.funs).map ei), .ro 5 p.code.length ((p.code).map eIns)]] (look []) (.v (.int .i64 (rstray_s p))) (postOf [] []) := by
  unfold rstray_s
  have := hp.1; have := hp.2.1; have := hp.2.2
  refine ok_head (T := [(1, .ptr 101 0), (2, .v (.int .i64 0)), (3, .v (.int .i64 0))]) (H := [(101, .cells [.v (.int .i64 p.mem), .v (.int .i64 p.stack), .v (.int .i64 p.input), .ro 1 p.data.length ((p.data).map eb), .ro 1 p.funs.length ((p.funs).map ei), .ro 5 p.code.length ((p.code).map eIns)] 26)]) (todo := headAt Try.f40 0) Try.func40 rfl rfl mixed 400 [(0, .nm 101)] (all0) (by kernel_rfl) ?_
  exact rstray_lok0 p hp _ 0 (by omega) (by omega) (Nat.lt_succ_self _)

theorem in3_t {n lo hi : Int} (h : in3_s n lo hi = true) : lo ≤ n ∧ n ≤ hi := by
  unfold in3_s at h
  cases h1 : decide (n ≥ lo) with
  | false => rw [h1] at h; cases h
  | true =>
    rw [h1] at h
    exact ⟨of_decide_eq_true h1, of_decide_eq_true (show decide (n ≤ hi) = true from h)⟩

theorem rput_l0_len (i : Ins) : ∀ (m : Nat) (k x : Int) (out : List Int), out.length = 8 → -1 ≤ k → (k + 1).toNat < m → (rput_l0 i m k x out).1.length = 12 := by
  intro m
  induction m with
  | zero => intro k x out _ _ hm; exact absurd hm (Nat.not_lt_zero _)
  | succ m ih =>
    intro k x out hl h1 hm
    rw [rput_l0]
    cases hc : decide (k ≥ (0 : Int)) with
    | false => simp only [cond_false]; simp [hl]
    | true =>
      have := of_decide_eq_true hc
      simp only [cond_true]
      exact ih _ _ _ (by rw [List.length_set]; exact hl) (by omega) (by omega)
theorem rput_len (i : Ins) : (rput_s i).1.length ≤ 12 := by
  unfold rput_s
  cases rwrong_s i == 0 with
  | true => exact Nat.zero_le _
  | false =>
    cases decide (rwrong_s i > 0) with
    | true => exact Nat.zero_le _
    | false => exact Nat.le_of_eq (rput_l0_len i _ 7 _ _ List.length_replicate (by omega) (Nat.lt_succ_self _))

def check_l1 (p : Img) : Nat → Int → Int
  | 0, _ => default
  | m + 1, i => (bif decide (i < (p.code.length : Int)) then (bif ((rput_s (p.code.getD ((i).toNat) default)).2) != (0 : Int) then ((rput_s (p.code.getD ((i).toNat) default)).2) else (check_l1 p m (i + 1))) else (bif decide ((rstray_s p) ≥ (0 : Int)) then (7 : Int) else (0 : Int)))
set_option maxRecDepth 100000 in
theorem check_lok1 (p : Img) (hp : Small p) : ∀ (m : Nat) (i : Int), (0 ≤ i) → (i ≤ p.code.length) → p.code.length - (i : Int).toNat < m → Good Try.prog 24 Try.f24.ntmps (look []) false (.v (.int .i64 (check_l1 p m i))) (postOf [] []) (headAt Try.f24 1) [(1, .ptr 101 0), (2, .v (.int .i64 0)), (4, .v (.int .i64 i))] [(101, .cells [.v (.int .i64 p.mem), .v (.int .i64 p.stack), .v (.int .i64 p.input), .ro 1 p.data.length ((p.data).map eb), .ro 1 p.funs.length ((p.funs).map ei), .ro 5 p.code.length ((p.code).map eIns)] 26)] := by
  intro m
  induction m with
  | zero => intro i i1 i2 hm; exact absurd hm (Nat.not_lt_zero _)
  | succ m ih =>
    intro i i1 i2 hm
    rw [check_l1]
    have := hp.1; have := hp.2.1; have := hp.2.2
    cases h11004 : (decide (i < (p.code.length : Int)))
    · have p11004 := of_decide_eq_false h11004
      cases h16002 : (decide ((rstray_s p) ≥ (0 : Int)))
      · have p16002 := of_decide_eq_false h16002
        exact good_run Try.func24 mixed 400 [(11004, .b false), (16001, .call [] [] (.v (.int .i64 (rstray_s p)))), (16002, .b false)] (all3 h11004 (rstray_ok p hp) h16002) (by kernel_rfl)
      · have p16002 := of_decide_eq_true h16002
        exact good_run Try.func24 mixed 400 [(11004, .b false), (16001, .call [] [] (.v (.int .i64 (rstray_s p)))), (16002, .b true)] (all3 h11004 (rstray_ok p hp) h16002) (by kernel_rfl)
    · have p11004 := of_decide_eq_true h11004
      cases h14001 : (((rput_s (p.code.getD ((i).toNat) default)).2) != (0 : Int))
      · have p14001 := bne_eq_false_iff_eq.1 h14001
        refine good_head (T := [(1, .ptr 101 0), (2, .v (.int .i64 0)), (4, .v (.int .i64 (i + 1)))]) (H := [(101, .cells [.v (.int .i64 p.mem), .v (.int .i64 p.stack), .v (.int .i64 p.input), .ro 1 p.data.length ((p.data).map eb), .ro 1 p.funs.length ((p.funs).map ei), .ro 5 p.code.length ((p.code).map eIns)] 26)]) (todo' := headAt Try.f24 1) Try.func24 mixed 400 [(11004, .b true), (13003, .el (eIns (p.code.getD ((i).toNat) default))), (13005, .call [] [] (.tup [.ro 1 (((rput_s (p.code.getD ((i).toNat) default)).1).length) (((rput_s (p.code.getD ((i).toNat) default)).1).map eb), .v (.int .i64 ((rput_s (p.code.getD ((i).toNat) default)).2))])), (14001, .b false), (12001, .as_ (.v (.int .i64 (i + 1))))] (all6 h11004 (show (0 : Int) ≤ i by omega) (getg (l := p.code) (n := (i).toNat) eIns default (by omega)) (rput_ok (p.code.getD ((i).toNat) default) ) h14001 (wr64 (x := i + 1) (by omega))) (by kernel_rfl) ?_
        exact ih (i + 1) (by omega) (by omega) (by omega)
      · have p14001 := bne_iff_ne.1 h14001
        exact good_run Try.func24 mixed 400 [(11004, .b true), (13003, .el (eIns (p.code.getD ((i).toNat) default))), (13005, .call [] [] (.tup [.ro 1 (((rput_s (p.code.getD ((i).toNat) default)).1).length) (((rput_s (p.code.getD ((i).toNat) default)).1).map eb), .v (.int .i64 ((rput_s (p.code.getD ((i).toNat) default)).2))])), (14001, .b true)] (all5 h11004 (show (0 : Int) ≤ i by omega) (getg (l := p.code) (n := (i).toNat) eIns default (by omega)) (rput_ok (p.code.getD ((i).toNat) default) ) h14001) (by kernel_rfl)
def check_l0 (p : Img) : Nat → Int → Int
  | 0, _ => default
  | m + 1, i => (bif decide (i < (p.funs.length : Int)) then (bif i == (0 : Int) then (bif (p.funs.getD ((i).toNat) 0) != (0 : Int) then (3 : Int) else (bif decide (i > (0 : Int)) then (bif decide ((p.funs.getD ((i).toNat) 0) ≤ (p.funs.getD ((i - 1).toNat) 0)) then (3 : Int) else (check_l0 p m (i + 1))) else (check_l0 p m (i + 1)))) else (bif decide (i > (0 : Int)) then (bif decide ((p.funs.getD ((i).toNat) 0) ≤ (p.funs.getD ((i - 1).toNat) 0)) then (3 : Int) else (check_l0 p m (i + 1))) else (check_l0 p m (i + 1)))) else (bif decide ((p.code.length : Int) > (256 : Int)) then (3 : Int) else (bif decide ((p.funs.getD (((p.funs.length : Int) - 1).toNat) 0) ≥ (p.code.length : Int)) then (3 : Int) else (check_l1 p (p.code.length - ((0) : Int).toNat + 1) 0))))
set_option maxRecDepth 100000 in
theorem check_lok0 (p : Img) (hp : Small p) : ∀ (m : Nat) (i : Int), (0 ≤ i) → (i ≤ p.funs.length) → (1 ≤ p.funs.length) → p.funs.length - (i : Int).toNat < m → Good Try.prog 24 Try.f24.ntmps (look []) false (.v (.int .i64 (check_l0 p m i))) (postOf [] []) (headAt Try.f24 0) [(1, .ptr 101 0), (2, .v (.int .i64 0)), (3, .v (.int .i64 i))] [(101, .cells [.v (.int .i64 p.mem), .v (.int .i64 p.stack), .v (.int .i64 p.input), .ro 1 p.data.length ((p.data).map eb), .ro 1 p.funs.length ((p.funs).map ei), .ro 5 p.code.length ((p.code).map eIns)] 26)] := by
  intro m
  induction m with
  | zero => intro i i1 i2 i3 hm; exact absurd hm (Nat.not_lt_zero _)
  | succ m ih =>
    intro i i1 i2 i3 hm
    rw [check_l0]
    have := hp.1; have := hp.2.1; have := hp.2.2
    cases h4004 : (decide (i < (p.funs.length : Int)))
    · have p4004 := of_decide_eq_false h4004
      cases h8003 : (decide ((p.code.length : Int) > (256 : Int)))
      · have p8003 := of_decide_eq_false h8003
        cases h8016 : (decide ((p.funs.getD (((p.funs.length : Int) - 1).toNat) 0) ≥ (p.code.length : Int)))
        · have p8016 := of_decide_eq_false h8016
          refine good_head (T := [(1, .ptr 101 0), (2, .v (.int .i64 0)), (4, .v (.int .i64 0))]) (H := [(101, .cells [.v (.int .i64 p.mem), .v (.int .i64 p.stack), .v (.int .i64 p.input), .ro 1 p.data.length ((p.data).map eb), .ro 1 p.funs.length ((p.funs).map ei), .ro 5 p.code.length ((p.code).map eIns)] 26)]) (todo' := headAt Try.f24 1) Try.func24 mixed 400 [(4004, .b false), (8003, .b false), (8010, .as_ (.v (.int .i64 ((p.funs.length : Int) - 1)))), (8011, .el (ei (p.funs.getD (((p.funs.length : Int) - 1).toNat) 0))), (8016, .b false)] (all6 h4004 h8003 (wr64 (x := (p.funs.length : Int) - 1) (by omega)) (show (0 : Int) ≤ (p.funs.length : Int) - 1 by omega) (getg (l := p.funs) (n := ((p.funs.length : Int) - 1).toNat) ei 0 (by omega)) h8016) (by kernel_rfl) ?_
          exact check_lok1 p hp _ 0 (by omega) (by omega) (Nat.lt_succ_self _)
        · have p8016 := of_decide_eq_true h8016
          exact good_run Try.func24 mixed 400 [(4004, .b false), (8003, .b false), (8010, .as_ (.v (.int .i64 ((p.funs.length : Int) - 1)))), (8011, .el (ei (p.funs.getD (((p.funs.length : Int) - 1).toNat) 0))), (8016, .b true)] (all6 h4004 h8003 (wr64 (x := (p.funs.length : Int) - 1) (by omega)) (show (0 : Int) ≤ (p.funs.length : Int) - 1 by omega) (getg (l := p.funs) (n := ((p.funs.length : Int) - 1).toNat) ei 0 (by omega)) h8016) (by kernel_rfl)
      · have p8003 := of_decide_eq_true h8003
        exact good_run Try.func24 mixed 400 [(4004, .b false), (8003, .b true)] (all2 h4004 h8003) (by kernel_rfl)
    · have p4004 := of_decide_eq_true h4004
      cases h6001 : (i == (0 : Int))
      · have p6001 := ne_of_beq_false h6001
        cases h6012 : (decide (i > (0 : Int)))
        · have p6012 := of_decide_eq_false h6012
          refine good_head (T := [(1, .ptr 101 0), (2, .v (.int .i64 0)), (3, .v (.int .i64 (i + 1)))]) (H := [(101, .cells [.v (.int .i64 p.mem), .v (.int .i64 p.stack), .v (.int .i64 p.input), .ro 1 p.data.length ((p.data).map eb), .ro 1 p.funs.length ((p.funs).map ei), .ro 5 p.code.length ((p.code).map eIns)] 26)]) (todo' := headAt Try.f24 0) Try.func24 mixed 400 [(4004, .b true), (6001, .b false), (6012, .b false), (5001, .as_ (.v (.int .i64 (i + 1))))] (all4 h4004 h6001 h6012 (wr64 (x := i + 1) (by omega))) (by kernel_rfl) ?_
          exact ih (i + 1) (by omega) (by omega) (by omega) (by omega)
        · have p6012 := of_decide_eq_true h6012
          cases h6025 : (decide ((p.funs.getD ((i).toNat) 0) ≤ (p.funs.getD ((i - 1).toNat) 0)))
          · have p6025 := of_decide_eq_false h6025
            refine good_head (T := [(1, .ptr 101 0), (2, .v (.int .i64 0)), (3, .v (.int .i64 (i + 1)))]) (H := [(101, .cells [.v (.int .i64 p.mem), .v (.int .i64 p.stack), .v (.int .i64 p.input), .ro 1 p.data.length ((p.data).map eb), .ro 1 p.funs.length ((p.funs).map ei), .ro 5 p.code.length ((p.code).map eIns)] 26)]) (todo' := headAt Try.f24 0) Try.func24 mixed 400 [(4004, .b true), (6001, .b false), (6012, .b true), (6017, .el (ei (p.funs.getD ((i).toNat) 0))), (6022, .as_ (.v (.int .i64 (i - 1)))), (6023, .el (ei (p.funs.getD ((i - 1).toNat) 0))), (6025, .b false), (5001, .as_ (.v (.int .i64 (i + 1))))] (.cons h4004 (.cons h6001 (all8 h6012 (show (0 : Int) ≤ i by omega) (getg (l := p.funs) (n := (i).toNat) ei 0 (by omega)) (wr64 (x := i - 1) (by omega)) (show (0 : Int) ≤ i - 1 by omega) (getg (l := p.funs) (n := (i - 1).toNat) ei 0 (by omega)) h6025 (wr64 (x := i + 1) (by omega))))) (by kernel_rfl) ?_
            exact ih (i + 1) (by omega) (by omega) (by omega) (by omega)
          · have p6025 := of_decide_eq_true h6025
            exact good_run Try.func24 mixed 400 [(4004, .b true), (6001, .b false), (6012, .b true), (6017, .el (ei (p.funs.getD ((i).toNat) 0))), (6022, .as_ (.v (.int .i64 (i - 1)))), (6023, .el (ei (p.funs.getD ((i - 1).toNat) 0))), (6025, .b true)] (.cons h4004 (all8 h6001 h6012 (show (0 : Int) ≤ i by omega) (getg (l := p.funs) (n := (i).toNat) ei 0 (by omega)) (wr64 (x := i - 1) (by omega)) (show (0 : Int) ≤ i - 1 by omega) (getg (l := p.funs) (n := (i - 1).toNat) ei 0 (by omega)) h6025)) (by kernel_rfl)
      · have p6001 := eq_of_beq h6001
        cases h6008 : ((p.funs.getD ((i).toNat) 0) != (0 : Int))
        · have p6008 := bne_eq_false_iff_eq.1 h6008
          cases h6012 : (decide (i > (0 : Int)))
          · have p6012 := of_decide_eq_false h6012
            refine good_head (T := [(1, .ptr 101 0), (2, .v (.int .i64 0)), (3, .v (.int .i64 (i + 1)))]) (H := [(101, .cells [.v (.int .i64 p.mem), .v (.int .i64 p.stack), .v (.int .i64 p.input), .ro 1 p.data.length ((p.data).map eb), .ro 1 p.funs.length ((p.funs).map ei), .ro 5 p.code.length ((p.code).map eIns)] 26)]) (todo' := headAt Try.f24 0) Try.func24 mixed 400 [(4004, .b true), (6001, .b true), (6006, .el (ei (p.funs.getD ((i).toNat) 0))), (6008, .b false), (6012, .b false), (5001, .as_ (.v (.int .i64 (i + 1))))] (all7 h4004 h6001 (show (0 : Int) ≤ i by omega) (getg (l := p.funs) (n := (i).toNat) ei 0 (by omega)) h6008 h6012 (wr64 (x := i + 1) (by omega))) (by kernel_rfl) ?_
            exact ih (i + 1) (by omega) (by omega) (by omega) (by omega)
          · have p6012 := of_decide_eq_true h6012
            cases h6025 : (decide ((p.funs.getD ((i).toNat) 0) ≤ (p.funs.getD ((i - 1).toNat) 0)))
            · have p6025 := of_decide_eq_false h6025
              refine good_head (T := [(1, .ptr 101 0), (2, .v (.int .i64 0)), (3, .v (.int .i64 (i + 1)))]) (H := [(101, .cells [.v (.int .i64 p.mem), .v (.int .i64 p.stack), .v (.int .i64 p.input), .ro 1 p.data.length ((p.data).map eb), .ro 1 p.funs.length ((p.funs).map ei), .ro 5 p.code.length ((p.code).map eIns)] 26)]) (todo' := headAt Try.f24 0) Try.func24 mixed 400 [(4004, .b true), (6001, .b true), (6006, .el (ei (p.funs.getD ((i).toNat) 0))), (6008, .b false), (6012, .b true), (6017, .el (ei (p.funs.getD ((i).toNat) 0))), (6022, .as_ (.v (.int .i64 (i - 1)))), (6023, .el (ei (p.funs.getD ((i - 1).toNat) 0))), (6025, .b false), (5001, .as_ (.v (.int .i64 (i + 1))))] (.cons h4004 (.cons h6001 (.cons (show (0 : Int) ≤ i by omega) (.cons (getg (l := p.funs) (n := (i).toNat) ei 0 (by omega)) (.cons h6008 (all8 h6012 (show (0 : Int) ≤ i by omega) (getg (l := p.funs) (n := (i).toNat) ei 0 (by omega)) (wr64 (x := i - 1) (by omega)) (show (0 : Int) ≤ i - 1 by omega) (getg (l := p.funs) (n := (i - 1).toNat) ei 0 (by omega)) h6025 (wr64 (x := i + 1) (by omega)))))))) (by kernel_rfl) ?_
              exact ih (i + 1) (by omega) (by omega) (by omega) (by omega)
            · have p6025 := of_decide_eq_true h6025
              exact good_run Try.func24 mixed 400 [(4004, .b true), (6001, .b true), (6006, .el (ei (p.funs.getD ((i).toNat) 0))), (6008, .b false), (6012, .b true), (6017, .el (ei (p.funs.getD ((i).toNat) 0))), (6022, .as_ (.v (.int .i64 (i - 1)))), (6023, .el (ei (p.funs.getD ((i - 1).toNat) 0))), (6025, .b true)] (.cons h4004 (.cons h6001 (.cons (show (0 : Int) ≤ i by omega) (.cons (getg (l := p.funs) (n := (i).toNat) ei 0 (by omega)) (all8 h6008 h6012 (show (0 : Int) ≤ i by omega) (getg (l := p.funs) (n := (i).toNat) ei 0 (by omega)) (wr64 (x := i - 1) (by omega)) (show (0 : Int) ≤ i - 1 by omega) (getg (l := p.funs) (n := (i - 1).toNat) ei 0 (by omega)) h6025))))) (by kernel_rfl)
        · have p6008 := bne_iff_ne.1 h6008
          exact good_run Try.func24 mixed 400 [(4004, .b true), (6001, .b true), (6006, .el (ei (p.funs.getD ((i).toNat) 0))), (6008, .b true)] (all5 h4004 h6001 (show (0 : Int) ≤ i by omega) (getg (l := p.funs) (n := (i).toNat) ei 0 (by omega)) h6008) (by kernel_rfl)
def check_s (p : Img) : Int := (bif !(in3_s p.mem 0 64) then (3 : Int) else (bif !(in3_s p.stack 0 16) then (3 : Int) else (bif !(in3_s p.input 0 16) then (3 : Int) else (bif decide ((p.data.length : Int) > p.mem) then (3 : Int) else (bif !(in3_s (p.funs.length : Int) 1 16) then (3 : Int) else (check_l0 p (p.funs.length - ((0) : Int).toNat + 1) 0))))))
set_option maxRecDepth 100000 in
theorem check_ok (p : Img) (hp : Small p) : Ok Try.prog 24 [.agg [.v (.int .i64 p.mem), .v (.int .i64 p.stack), .v (.int .i64 p.input), .ro 1 p.data.length ((p.data).map eb), .ro 1 p.funs.length ((p.funs).map ei), .ro 5 p.code.length ((p.code).map eIns)]] (look []) (.v (.int .i64 (check_s p))) (postOf [] []) := by
  unfold check_s
  have := hp.1; have := hp.2.1; have := hp.2.2
  cases h1003 : (!(in3_s p.mem 0 64))
  · have p1003 := in3_t (notF h1003)
    cases h1008 : (!(in3_s p.stack 0 16))
    · have p1008 := in3_t (notF h1008)
      cases h1014 : (!(in3_s p.input 0 16))
      · have p1014 := in3_t (notF h1014)
        cases h1022 : (decide ((p.data.length : Int) > p.mem))
        · have p1022 := of_decide_eq_false h1022
          cases h1029 : (!(in3_s (p.funs.length : Int) 1 16))
          · have p1029 := in3_t (notF h1029)
            refine ok_head (T := [(1, .ptr 101 0), (2, .v (.int .i64 0)), (3, .v (.int .i64 0))]) (H := [(101, .cells [.v (.int .i64 p.mem), .v (.int .i64 p.stack), .v (.int .i64 p.input), .ro 1 p.data.length ((p.data).map eb), .ro 1 p.funs.length ((p.funs).map ei), .ro 5 p.code.length ((p.code).map eIns)] 26)]) (todo := headAt Try.f24 0) Try.func24 rfl rfl mixed 400 [(0, .nm 101), (1002, .call [] [] (.v (.bool (in3_s p.mem 0 64)))), (1003, .b false), (1007, .call [] [] (.v (.bool (in3_s p.stack 0 16)))), (1008, .b false), (1013, .call [] [] (.v (.bool (in3_s p.input 0 16)))), (1014, .b false), (1022, .b false), (1028, .call [] [] (.v (.bool (in3_s (p.funs.length : Int) 1 16)))), (1029, .b false)] (.cons (in3_ok p.mem 0 64 ) (all8 h1003 (in3_ok p.stack 0 16 ) h1008 (in3_ok p.input 0 16 ) h1014 h1022 (in3_ok (p.funs.length : Int) 1 16 ) h1029)) (by kernel_rfl) ?_
            exact check_lok0 p hp _ 0 (by omega) (by omega) (by omega) (Nat.lt_succ_self _)
          · have p1029 := notT h1029
            exact ok_run Try.func24 rfl rfl mixed 400 [(0, .nm 101), (1002, .call [] [] (.v (.bool (in3_s p.mem 0 64)))), (1003, .b false), (1007, .call [] [] (.v (.bool (in3_s p.stack 0 16)))), (1008, .b false), (1013, .call [] [] (.v (.bool (in3_s p.input 0 16)))), (1014, .b false), (1022, .b false), (1028, .call [] [] (.v (.bool (in3_s (p.funs.length : Int) 1 16)))), (1029, .b true)] (.cons (in3_ok p.mem 0 64 ) (all8 h1003 (in3_ok p.stack 0 16 ) h1008 (in3_ok p.input 0 16 ) h1014 h1022 (in3_ok (p.funs.length : Int) 1 16 ) h1029)) (by kernel_rfl)
        · have p1022 := of_decide_eq_true h1022
          exact ok_run Try.func24 rfl rfl mixed 400 [(0, .nm 101), (1002, .call [] [] (.v (.bool (in3_s p.mem 0 64)))), (1003, .b false), (1007, .call [] [] (.v (.bool (in3_s p.stack 0 16)))), (1008, .b false), (1013, .call [] [] (.v (.bool (in3_s p.input 0 16)))), (1014, .b false), (1022, .b true)] (all7 (in3_ok p.mem 0 64 ) h1003 (in3_ok p.stack 0 16 ) h1008 (in3_ok p.input 0 16 ) h1014 h1022) (by kernel_rfl)
      · have p1014 := notT h1014
        exact ok_run Try.func24 rfl rfl mixed 400 [(0, .nm 101), (1002, .call [] [] (.v (.bool (in3_s p.mem 0 64)))), (1003, .b false), (1007, .call [] [] (.v (.bool (in3_s p.stack 0 16)))), (1008, .b false), (1013, .call [] [] (.v (.bool (in3_s p.input 0 16)))), (1014, .b true)] (all6 (in3_ok p.mem 0 64 ) h1003 (in3_ok p.stack 0 16 ) h1008 (in3_ok p.input 0 16 ) h1014) (by kernel_rfl)
    · have p1008 := notT h1008
      exact ok_run Try.func24 rfl rfl mixed 400 [(0, .nm 101), (1002, .call [] [] (.v (.bool (in3_s p.mem 0 64)))), (1003, .b false), (1007, .call [] [] (.v (.bool (in3_s p.stack 0 16)))), (1008, .b true)] (all4 (in3_ok p.mem 0 64 ) h1003 (in3_ok p.stack 0 16 ) h1008) (by kernel_rfl)
  · have p1003 := notT h1003
    exact ok_run Try.func24 rfl rfl mixed 400 [(0, .nm 101), (1002, .call [] [] (.v (.bool (in3_s p.mem 0 64)))), (1003, .b true)] (all2 (in3_ok p.mem 0 64 ) h1003) (by kernel_rfl)

def right_s (p : Img) : Bool := ((check_s p) == (0 : Int))
set_option maxRecDepth 100000 in
theorem right_ok (p : Img) (hp : Small p) : Ok Try.prog 12 [.agg [.v (.int .i64 p.mem), .v (.int .i64 p.stack), .v (.int .i64 p.input), .ro 1 p.data.length ((p.data).map eb), .ro 1 p.funs.length ((p.funs).map ei), .ro 5 p.code.length ((p.code).map eIns)]] (look []) (.v (.bool (right_s p))) (postOf [] []) := by
  unfold right_s
  exact ok_run Try.func12 rfl rfl mixed 400 [(0, .nm 101), (1001, .call [] [] (.v (.int .i64 (check_s p))))] (all1 (check_ok p hp)) (by kernel_rfl)
end Go.Proofs.Yteolbecihipcaaa.Sx.M5
