/- What the functions of a chapter compute, as contracts; written by a program of this session. -/
import Derived.Test.YtdfifogicefkjaaGreatDoorN5
import Derived.Test.YtdfifogicefkjaaGreatDoorT1
open Go Go.Proofs Go.RowKit
namespace Go.Proofs.YtdfifogicefkjaaGreatDoor.Sx.M5
set_option linter.unusedVariables false
set_option linter.unusedSimpArgs false
theorem qbit_l0_rng (r : Nat → Int) : ∀ (m : Nat) (f g : Nat → Bool) (i : Int), U64 (qbit_l0 r m f g i).1 ∧ U64 (qbit_l0 r m f g i).2 := by
  intro m
  induction m with
  | zero => intro f g i; exact ⟨⟨Int.le_refl 0, (by decide : (0 : Int) < 18446744073709551616)⟩, ⟨Int.le_refl 0, (by decide : (0 : Int) < 18446744073709551616)⟩⟩
  | succ m ih =>
    intro f g i
    rw [qbit_l0]
    cases decide (i < (64 : Int)) with
    | true => exact ih _ _ _
    | false => exact ⟨rnum_rng f, rnum_rng g⟩
theorem qbit_rng (r : Nat → Int) : U64 (qbit_s r).1 ∧ U64 (qbit_s r).2 := qbit_l0_rng r _ _ _ _
theorem qmee_l0_rng (w a b c e : Int) : ∀ (m : Nat) (f : Nat → Int) (i : Int), U64 (qmee_l0 w a b c e m f i).1 ∧ U64 (qmee_l0 w a b c e m f i).2.1 := by
  intro m
  induction m with
  | zero => intro f i; exact ⟨⟨Int.le_refl 0, (by decide : (0 : Int) < 18446744073709551616)⟩, ⟨Int.le_refl 0, (by decide : (0 : Int) < 18446744073709551616)⟩⟩
  | succ m ih =>
    intro f i
    rw [qmee_l0]
    have z : U64 ((0 : Int), (0 : Int), false).1 ∧ U64 ((0 : Int), (0 : Int), false).2.1 := ⟨⟨Int.le_refl 0, by decide⟩, ⟨Int.le_refl 0, by decide⟩⟩
    cases decide (i < (rwid_s w)) with
    | false => exact qbit_rng f
    | true =>
      cases (f i.toNat != (2 : Int)) <;> cases ((qof_s (rwid_s w) c e) i.toNat != (2 : Int)) <;> cases (f i.toNat == (2 : Int)) <;> cases (f i.toNat != (qof_s (rwid_s w) c e) i.toNat) <;> first | exact ih _ _ | exact z
theorem qmee_rng (w a b c e : Int) : U64 (qmee_s w a b c e).1 ∧ U64 (qmee_s w a b c e).2.1 := qmee_l0_rng _ _ _ _ _ _ _ _
theorem hwho_rng (w : Int) : GuR (hwho_s w) := by
  have h0 : U64 (0 : Int) := ⟨Int.le_refl 0, by decide⟩
  exact ⟨h0, rmsk_rng w, h0, h0⟩
theorem htig_c_rng (w : Int) (g : Gu) {lo hi : Int} (z e : Int) (h1 : 0 ≤ lo) (h2 : hi < 18446744073709551616) : GuR (htig_c8 w g lo hi z e) := by
  unfold htig_c8
  cases c : decide (lo > hi) with
  | true => exact hwho_rng _
  | false =>
    have c := of_decide_eq_false c
    generalize hk : qmee_s _ z e _ _ = k
    have r : U64 k.1 ∧ U64 k.2.1 := hk ▸ qmee_rng _ _ _ _ _
    rw [cond_false]
    cases (!(k.2.2)) with
    | true => exact hwho_rng _
    | false => exact ⟨⟨h1, by show lo < _; omega⟩, ⟨by show 0 ≤ hi; omega, h2⟩, r.1, r.2⟩
theorem rsri_hi (w a b : Int) : (rsri_s w a b).2 < 18446744073709551616 := by
  have m := (rmsk_rng w).2
  unfold rsri_s
  cases decide (a > b) with
  | true => exact m
  | false =>
    cases c : decide (b > rmsk_s w) with
    | true => exact m
    | false => have c := of_decide_eq_false c; show b < _; omega
theorem htig_rng (w : Int) (g : Gu) : GuR (htig_s w g) := by
  unfold htig_s
  have q : U64 (qrig_s (rwid_s w) g.z g.e).2 := (qbit_rng (qof_s (rwid_s (rwid_s w)) g.z g.e)).2
  have m := wrap_u64_rng ((rmsk_s (rwid_s w)) - ((qrig_s (rwid_s w) g.z g.e).1))
  have h := rsri_hi (rwid_s w) g.lo g.hi
  cases c1 : decide (((qrig_s (rwid_s w) g.z g.e).2) > ((rsri_s (rwid_s w) g.lo g.hi).1)) with
  | true => cases decide ((IntKind.u64.wrap ((rmsk_s (rwid_s w)) - ((qrig_s (rwid_s w) g.z g.e).1))) < ((rsri_s (rwid_s w) g.lo g.hi).2)) <;> exact htig_c_rng w g _ _ (by omega) (by omega)
  | false =>
    have c1 := of_decide_eq_false c1
    cases decide ((IntKind.u64.wrap ((rmsk_s (rwid_s w)) - ((qrig_s (rwid_s w) g.z g.e).1))) < ((rsri_s (rwid_s w) g.lo g.hi).2)) <;> exact htig_c_rng w g _ _ (by omega) (by omega)
theorem hloo_x {l : List Nd} {out : List Gu} {x : Nd} (h : (hloo_s l out x).2 = false) : GuR (hloo_s l out x).1 := by
  unfold hloo_s at h ⊢
  cases c0 : (x.op == (0 : Int)) with
  | true => rw [c0] at h; cases h
  | false =>
  rw [c0] at h
  cases c1 : (x.op == (1 : Int)) with
  | true => rw [c1] at h; cases h
  | false =>
  rw [c1] at h
  cases c2 : (x.op == (2 : Int)) with
  | true => rw [c2] at h; cases h
  | false =>
  rw [c2] at h
  cases c3 : (x.op == (23 : Int)) with
  | true => rw [c3] at h; cases h
  | false =>
  rw [c3] at h
  cases c4 : (x.op == (3 : Int)) with
  | true => exact gu_zero
  | false =>
  rw [c4] at h
  cases c5 : (x.op == (4 : Int)) with
  | true => exact gu_zero
  | false =>
  rw [c5] at h
  cases c6 : (x.op == (24 : Int)) with
  | true => exact gu_zero
  | false =>
  rw [c6] at h
  cases c7 : (x.op == (6 : Int)) with
  | true => rw [c7] at h; cases h
  | false =>
  rw [c7] at h
  cases c8 : (x.op == (7 : Int)) with
  | true => rw [c8] at h; simp only [cond_true, cond_false] at h; cases c9 : decide ((out.getD ((x.k 0).toNat) default).hi > (255 : Int)) <;> rw [c9] at h <;> cases h
  | false =>
  rw [c8] at h
  cases c9 : (x.op == (22 : Int)) with
  | true => rw [c9] at h; cases h
  | false => rw [c9] at h; cases h

def hof_l0 (l : List Nd) : Nat → List Gu → Int → List Gu × Int
  | 0, _, _ => default
  | m + 1, out, i => (bif decide (i < (l.length : Int)) then (bif (hloo_s l out (l.getD ((i).toNat) default)).2 then (hof_l0 l m (out ++ ([(htig_s ((l.getD ((i).toNat) default).w) ((hloo_s l out (l.getD ((i).toNat) default)).1))] : List Gu)) (i + 1)) else (hof_l0 l m (out ++ ([(hloo_s l out (l.getD ((i).toNat) default)).1] : List Gu)) (i + 1))) else (out, (0 : Int)))
set_option maxRecDepth 100000 in
theorem hof_lok0 (l : List Nd) (hl : l.length < 2 ^ 40) (hn : ∀ j, U64 (l.getD j default).n) : ∀ (m : Nat) (out : List Gu) (i : Int), (0 ≤ i) → (i ≤ l.length) → (out.length = i.toNat) → (NdsOk l) → (∀ j, GuR (out.getD j default)) → l.length - (i : Int).toNat < m → Good Tryz.prog 6 Tryz.f6.ntmps (look []) false (.tup [.ro 4 (((hof_l0 l m out i).1).length) (((hof_l0 l m out i).1).map eGu), .v (.int .i64 ((hof_l0 l m out i).2))]) (postOf [] []) (headAt Tryz.f6 0) [(0, .ro 6 l.length ((l).map eNd)), (2, .v (.slice none 0 0)), (3, .v (.int .i64 0)), (6, .own 861), (7, .v (.int .i64 i))] [(861, .row 4 42 out.length ((out).map eGu))] := by
  intro m
  induction m with
  | zero => intro out i i0 i1 i2 hv hg hm; exact absurd hm (Nat.not_lt_zero _)
  | succ m ih =>
    intro out i i0 i1 i2 hv hg hm
    rw [hof_l0]
    cases h6003 : (decide (i < (l.length : Int)))
    · have p6003 := of_decide_eq_false h6003
      refine Good.freeze (n := 861) (by rfl) ?_
      exact good_run Tryz.func6 mixed 400 [(6003, .b false)] (all1 h6003) (by kernel_rfl)
    · have p6003 := of_decide_eq_true h6003
      cases h8009 : ((hloo_s l out (l.getD ((i).toNat) default)).2)
      · refine good_head (T := [(0, .ro 6 l.length ((l).map eNd)), (2, .v (.slice none 0 0)), (3, .v (.int .i64 0)), (6, .own 753), (7, .v (.int .i64 (i + 1)))]) (H := [(753, .row 4 42 ((out ++ ([(hloo_s l out (l.getD ((i).toNat) default)).1] : List Gu)).length) ((out ++ ([(hloo_s l out (l.getD ((i).toNat) default)).1] : List Gu)).map eGu))]) (todo' := headAt Tryz.f6 0) Tryz.func6 mixed 400 [(6003, .b true), (8004, .el (eNd (l.getD ((i).toNat) default))), (8006, .call [861] [] (.tup [.agg [.v (.int .u64 ((hloo_s l out (l.getD ((i).toNat) default)).1.lo)), .v (.int .u64 ((hloo_s l out (l.getD ((i).toNat) default)).1.hi)), .v (.int .u64 ((hloo_s l out (l.getD ((i).toNat) default)).1.z)), .v (.int .u64 ((hloo_s l out (l.getD ((i).toNat) default)).1.e))], .v (.bool ((hloo_s l out (l.getD ((i).toNat) default)).2))])), (8009, .b false), (8010, .nm 751), (11002, .app 752 (([(hloo_s l out (l.getD ((i).toNat) default)).1] : List Gu).length) (([(hloo_s l out (l.getD ((i).toNat) default)).1] : List Gu).map eGu)), (11003, .app 753 ((out ++ ([(hloo_s l out (l.getD ((i).toNat) default)).1] : List Gu)).length) ((out ++ ([(hloo_s l out (l.getD ((i).toNat) default)).1] : List Gu)).map eGu)), (7001, .as_ (.v (.int .i64 (i + 1))))] (.cons h6003 (.cons (show (0 : Int) ≤ i by omega) (.cons (getg (l := l) (n := (i).toNat) eNd default (by omega)) (all8 (hloo_ok l out (l.getD ((i).toNat) default) (hv i.toNat (by omega)).op (fun h => ndq hv (by omega) (by omega) h) (by omega) hg) h8009 (And.intro (Eq.refl (([(hloo_s l out (l.getD ((i).toNat) default)).1] : List Gu).map eGu)) (Eq.refl (([(hloo_s l out (l.getD ((i).toNat) default)).1] : List Gu).length))) (oneE eGu (fun _ => rfl) ([(hloo_s l out (l.getD ((i).toNat) default)).1] : List Gu)) (show (out.length + ([(hloo_s l out (l.getD ((i).toNat) default)).1] : List Gu).length) * 32 ≤ 140737488355328 by (first | omega | (simp only [List.length_append, List.length_cons, List.length_nil, List.length_map, List.length_take, List.length_drop, List.length_replicate, maxLen] <;> omega))) (show out.length + ([(hloo_s l out (l.getD ((i).toNat) default)).1] : List Gu).length ≤ maxLen by (first | omega | (simp only [List.length_append, List.length_cons, List.length_nil, List.length_map, List.length_take, List.length_drop, List.length_replicate, maxLen] <;> omega))) (appE eGu out ([(hloo_s l out (l.getD ((i).toNat) default)).1] : List Gu)) (wr64 (x := i + 1) (by omega)))))) (by kernel_rfl) ?_
        refine Good.ren 753 861 (by kernel_rfl) ?_
        exact Good.cast (by kernel_rfl) (by kernel_rfl) (ih (out ++ ([(hloo_s l out (l.getD ((i).toNat) default)).1] : List Gu)) (i + 1) (by first | omega | (first | omega | (simp only [List.length_append, List.length_cons, List.length_nil, List.length_map, List.length_take, List.length_drop, List.length_replicate, maxLen] <;> omega))) (by first | omega | (first | omega | (simp only [List.length_append, List.length_cons, List.length_nil, List.length_map, List.length_take, List.length_drop, List.length_replicate, maxLen] <;> omega))) (by first | omega | (first | omega | (simp only [List.length_append, List.length_cons, List.length_nil, List.length_map, List.length_take, List.length_drop, List.length_replicate, maxLen] <;> omega))) (by first | assumption | exact (nds_of_rchk hn (by assumption)).1) (by first | exact gu_nil | exact gu_app hg (htig_rng _ _) | exact gu_app hg (hloo_x (by assumption))) (by omega))
      · refine good_head (T := [(0, .ro 6 l.length ((l).map eNd)), (2, .v (.slice none 0 0)), (3, .v (.int .i64 0)), (6, .own 753), (7, .v (.int .i64 (i + 1)))]) (H := [(753, .row 4 42 ((out ++ ([(htig_s ((l.getD ((i).toNat) default).w) ((hloo_s l out (l.getD ((i).toNat) default)).1))] : List Gu)).length) ((out ++ ([(htig_s ((l.getD ((i).toNat) default).w) ((hloo_s l out (l.getD ((i).toNat) default)).1))] : List Gu)).map eGu))]) (todo' := headAt Tryz.f6 0) Tryz.func6 mixed 400 [(6003, .b true), (8004, .el (eNd (l.getD ((i).toNat) default))), (8006, .call [861] [] (.tup [.agg [.v (.int .u64 ((hloo_s l out (l.getD ((i).toNat) default)).1.lo)), .v (.int .u64 ((hloo_s l out (l.getD ((i).toNat) default)).1.hi)), .v (.int .u64 ((hloo_s l out (l.getD ((i).toNat) default)).1.z)), .v (.int .u64 ((hloo_s l out (l.getD ((i).toNat) default)).1.e))], .v (.bool ((hloo_s l out (l.getD ((i).toNat) default)).2))])), (8009, .b true), (8010, .nm 751), (10002, .el (eNd (l.getD ((i).toNat) default))), (10006, .call [] [] (.agg [.v (.int .u64 ((htig_s ((l.getD ((i).toNat) default).w) ((hloo_s l out (l.getD ((i).toNat) default)).1)).lo)), .v (.int .u64 ((htig_s ((l.getD ((i).toNat) default).w) ((hloo_s l out (l.getD ((i).toNat) default)).1)).hi)), .v (.int .u64 ((htig_s ((l.getD ((i).toNat) default).w) ((hloo_s l out (l.getD ((i).toNat) default)).1)).z)), .v (.int .u64 ((htig_s ((l.getD ((i).toNat) default).w) ((hloo_s l out (l.getD ((i).toNat) default)).1)).e))])), (11002, .app 752 (([(htig_s ((l.getD ((i).toNat) default).w) ((hloo_s l out (l.getD ((i).toNat) default)).1))] : List Gu).length) (([(htig_s ((l.getD ((i).toNat) default).w) ((hloo_s l out (l.getD ((i).toNat) default)).1))] : List Gu).map eGu)), (11003, .app 753 ((out ++ ([(htig_s ((l.getD ((i).toNat) default).w) ((hloo_s l out (l.getD ((i).toNat) default)).1))] : List Gu)).length) ((out ++ ([(htig_s ((l.getD ((i).toNat) default).w) ((hloo_s l out (l.getD ((i).toNat) default)).1))] : List Gu)).map eGu)), (7001, .as_ (.v (.int .i64 (i + 1))))] (.cons h6003 (.cons (show (0 : Int) ≤ i by omega) (.cons (getg (l := l) (n := (i).toNat) eNd default (by omega)) (.cons (hloo_ok l out (l.getD ((i).toNat) default) (hv i.toNat (by omega)).op (fun h => ndq hv (by omega) (by omega) h) (by omega) hg) (.cons h8009 (.cons (show (0 : Int) ≤ i by omega) (all8 (getg (l := l) (n := (i).toNat) eNd default (by omega)) (htig_ok ((l.getD ((i).toNat) default).w) ((hloo_s l out (l.getD ((i).toNat) default)).1) ) (And.intro (Eq.refl (([(htig_s ((l.getD ((i).toNat) default).w) ((hloo_s l out (l.getD ((i).toNat) default)).1))] : List Gu).map eGu)) (Eq.refl (([(htig_s ((l.getD ((i).toNat) default).w) ((hloo_s l out (l.getD ((i).toNat) default)).1))] : List Gu).length))) (oneE eGu (fun _ => rfl) ([(htig_s ((l.getD ((i).toNat) default).w) ((hloo_s l out (l.getD ((i).toNat) default)).1))] : List Gu)) (show (out.length + ([(htig_s ((l.getD ((i).toNat) default).w) ((hloo_s l out (l.getD ((i).toNat) default)).1))] : List Gu).length) * 32 ≤ 140737488355328 by (first | omega | (simp only [List.length_append, List.length_cons, List.length_nil, List.length_map, List.length_take, List.length_drop, List.length_replicate, maxLen] <;> omega))) (show out.length + ([(htig_s ((l.getD ((i).toNat) default).w) ((hloo_s l out (l.getD ((i).toNat) default)).1))] : List Gu).length ≤ maxLen by (first | omega | (simp only [List.length_append, List.length_cons, List.length_nil, List.length_map, List.length_take, List.length_drop, List.length_replicate, maxLen] <;> omega))) (appE eGu out ([(htig_s ((l.getD ((i).toNat) default).w) ((hloo_s l out (l.getD ((i).toNat) default)).1))] : List Gu)) (wr64 (x := i + 1) (by omega))))))))) (by kernel_rfl) ?_
        refine Good.ren 753 861 (by kernel_rfl) ?_
        exact Good.cast (by kernel_rfl) (by kernel_rfl) (ih (out ++ ([(htig_s ((l.getD ((i).toNat) default).w) ((hloo_s l out (l.getD ((i).toNat) default)).1))] : List Gu)) (i + 1) (by first | omega | (first | omega | (simp only [List.length_append, List.length_cons, List.length_nil, List.length_map, List.length_take, List.length_drop, List.length_replicate, maxLen] <;> omega))) (by first | omega | (first | omega | (simp only [List.length_append, List.length_cons, List.length_nil, List.length_map, List.length_take, List.length_drop, List.length_replicate, maxLen] <;> omega))) (by first | omega | (first | omega | (simp only [List.length_append, List.length_cons, List.length_nil, List.length_map, List.length_take, List.length_drop, List.length_replicate, maxLen] <;> omega))) (by first | assumption | exact (nds_of_rchk hn (by assumption)).1) (by first | exact gu_nil | exact gu_app hg (htig_rng _ _) | exact gu_app hg (hloo_x (by assumption))) (by omega))
def hof_s (l : List Nd) : List Gu × Int := (bif ((rchk_s l).1) != (0 : Int) then (([] : List Gu), (rchk_s l).1) else (hof_l0 l (l.length - ((0) : Int).toNat + 1) ([] : List Gu) 0))
set_option maxRecDepth 100000 in
theorem hof_ok (l : List Nd) (hl : l.length < 2 ^ 40) (hn : ∀ j, U64 (l.getD j default).n) : Ok Tryz.prog 6 [.ro 6 l.length ((l).map eNd)] (look []) (.tup [.ro 4 (((hof_s l).1).length) (((hof_s l).1).map eGu), .v (.int .i64 ((hof_s l).2))]) (postOf [] []) := by
  unfold hof_s
  cases h2001 : (((rchk_s l).1) != (0 : Int))
  · have p2001 := bne_eq_false_iff_eq.1 h2001
    refine ok_head (T := [(0, .ro 6 l.length ((l).map eNd)), (2, .v (.slice none 0 0)), (3, .v (.int .i64 0)), (6, .v (.slice none 0 0)), (7, .v (.int .i64 0))]) (H := []) (todo := headAt Tryz.f6 0) Tryz.func6 rfl rfl mixed 400 [(1001, .call [] [] (.tup [.v (.int .i64 ((rchk_s l).1)), .v (.int .i64 ((rchk_s l).2))])), (2001, .b false)] (all2 (rchk_ok l (by first | omega | (first | omega | (simp only [List.length_append, List.length_cons, List.length_nil, List.length_map, List.length_take, List.length_drop, List.length_replicate, maxLen] <;> omega)))) h2001) (by kernel_rfl) ?_
    refine Good.named 861 4 42 [6] (by decide) (by kernel_rfl) ?_
    exact Good.cast (by kernel_rfl) (by kernel_rfl) (hof_lok0 l hl hn _ ([] : List Gu) 0 (by first | omega | (first | omega | (simp only [List.length_append, List.length_cons, List.length_nil, List.length_map, List.length_take, List.length_drop, List.length_replicate, maxLen] <;> omega))) (by first | omega | (first | omega | (simp only [List.length_append, List.length_cons, List.length_nil, List.length_map, List.length_take, List.length_drop, List.length_replicate, maxLen] <;> omega))) (by first | omega | (first | omega | (simp only [List.length_append, List.length_cons, List.length_nil, List.length_map, List.length_take, List.length_drop, List.length_replicate, maxLen] <;> omega))) (by first | assumption | exact (nds_of_rchk hn (by assumption)).1) (by first | exact gu_nil | exact gu_app hg (htig_rng _ _) | exact gu_app hg (hloo_x (by assumption))) (Nat.lt_succ_self _))
  · have p2001 := bne_iff_ne.1 h2001
    refine Ok.le (res := .tup [.v (.slice none 0 0), .v (.int .i64 ((rchk_s l).1))]) ?_ (by repeat (first | exact LeA.refl _ | exact LeA.nil _ | exact LeL.nil | apply LeA.tup | apply LeA.agg | apply LeA.vagg | apply LeL.cons | apply LeA.ifc))
    exact ok_run Tryz.func6 rfl rfl mixed 400 [(1001, .call [] [] (.tup [.v (.int .i64 ((rchk_s l).1)), .v (.int .i64 ((rchk_s l).2))])), (2001, .b true)] (all2 (rchk_ok l (by first | omega | (first | omega | (simp only [List.length_append, List.length_cons, List.length_nil, List.length_map, List.length_take, List.length_drop, List.length_replicate, maxLen] <;> omega)))) h2001) (by kernel_rfl)
end Go.Proofs.YtdfifogicefkjaaGreatDoor.Sx.M5
/- What the functions of a chapter compute, as contracts; written by a program of this session. -/
open Go Go.Proofs Go.RowKit
namespace Go.Proofs.YtdfifogicefkjaaGreatDoor.Sx.M5
set_option linter.unusedVariables false
set_option linter.unusedSimpArgs false
/-- What the document knows of the next node. -/
def hstep (l : List Nd) (out : List Gu) (x : Nd) : Gu := bif (hloo_s l out x).2 then htig_s x.w (hloo_s l out x).1 else (hloo_s l out x).1
theorem hof_step (l : List Nd) (m : Nat) (out : List Gu) (i : Int) : hof_l0 l (m + 1) out i = bif decide (i < (l.length : Int)) then hof_l0 l m (out ++ [hstep l out (l.getD i.toNat default)]) (i + 1) else (out, 0) := by
  rw [hof_l0]
  unfold hstep
  generalize l.getD i.toNat default = x
  cases decide (i < (l.length : Int)) with
  | false => rfl
  | true => cases (hloo_s l out x).2 <;> rfl
theorem hof_l0_len {l : List Nd} : ∀ (m : Nat) (out : List Gu) (i : Int), 0 ≤ i → i ≤ l.length → l.length - i.toNat < m → out.length = i.toNat → (hof_l0 l m out i).1.length = l.length := by
  intro m
  induction m with
  | zero => intro out i _ _ h; omega
  | succ m ih =>
    intro out i h0 h1 hm ho
    rw [hof_step]
    cases c : decide (i < (l.length : Int)) with
    | false => have c := of_decide_eq_false c; rw [cond_false]; show out.length = _; omega
    | true =>
      have c := of_decide_eq_true c
      rw [cond_true]
      exact ih _ _ (by omega) (by omega) (by omega) (by simp; omega)
theorem hof_len {l : List Nd} (hn : ∀ j, U64 (l.getD j default).n) (h : (hof_s l).2 = 0) : (hof_s l).1.length = l.length ∧ 1 ≤ l.length := by
  unfold hof_s at h ⊢
  cases c : ((rchk_s l).1 != (0 : Int)) with
  | true => rw [c] at h; exact absurd h (by simpa using c)
  | false =>
    rw [cond_false]
    exact ⟨hof_l0_len _ _ _ (by omega) (by omega) (Nat.lt_succ_self _) rfl, (nds_of_rchk hn (by simpa using c)).2⟩
theorem hof_le (l : List Nd) : (hof_s l).1.length ≤ l.length := by
  unfold hof_s
  cases c : ((rchk_s l).1 != (0 : Int)) with
  | true => exact Nat.zero_le _
  | false =>
    rw [cond_false]
    exact Nat.le_of_eq (hof_l0_len _ _ _ (by omega) (by omega) (Nat.lt_succ_self _) rfl)

def hdec_s (l : List Nd) : Int × Int := (bif ((hof_s l).2) != (0 : Int) then ((0 : Int), (hof_s l).2) else (bif ((l.getD (((l.length : Int) - 1).toNat) default).w) != (1 : Int) then ((0 : Int), (8 : Int)) else (bif ((((hof_s l).1).getD (((l.length : Int) - 1).toNat) default).lo) == (1 : Int) then ((1 : Int), (0 : Int)) else (bif ((((hof_s l).1).getD (((l.length : Int) - 1).toNat) default).hi) == (0 : Int) then ((2 : Int), (0 : Int)) else ((0 : Int), (0 : Int))))))
set_option maxRecDepth 100000 in
theorem hdec_ok (l : List Nd) (hl : l.length < 2 ^ 40) (hn : ∀ j, U64 (l.getD j default).n) : Ok Tryz.prog 8 [.ro 6 l.length ((l).map eNd)] (look []) (.tup [.v (.int .i64 ((hdec_s l).1)), .v (.int .i64 ((hdec_s l).2))]) (postOf [] []) := by
  unfold hdec_s
  have sl := hof_len hn
  cases h2001 : (((hof_s l).2) != (0 : Int))
  · have p2001 := bne_eq_false_iff_eq.1 h2001
    cases h4007 : (((l.getD (((l.length : Int) - 1).toNat) default).w) != (1 : Int))
    · have p4007 := bne_eq_false_iff_eq.1 h4007
      cases h7002 : (((((hof_s l).1).getD (((l.length : Int) - 1).toNat) default).lo) == (1 : Int))
      · have p7002 := ne_of_beq_false h7002
        cases h9002 : (((((hof_s l).1).getD (((l.length : Int) - 1).toNat) default).hi) == (0 : Int))
        · have p9002 := ne_of_beq_false h9002
          exact ok_run Tryz.func8 rfl rfl mixed 400 [(1001, .call [] [] (.tup [.ro 4 (((hof_s l).1).length) (((hof_s l).1).map eGu), .v (.int .i64 ((hof_s l).2))])), (2001, .b false), (4003, .as_ (.v (.int .i64 ((l.length : Int) - 1)))), (4004, .el (eNd (l.getD (((l.length : Int) - 1).toNat) default))), (4007, .b false), (6003, .as_ (.v (.int .i64 ((l.length : Int) - 1)))), (6004, .el (eGu (((hof_s l).1).getD (((l.length : Int) - 1).toNat) default))), (6007, .nm 701), (7002, .b false), (9002, .b false)] (.cons (hof_ok l (by first | omega | (first | omega | (simp only [List.length_append, List.length_cons, List.length_nil, List.length_map, List.length_take, List.length_drop, List.length_replicate, maxLen] <;> omega))) hn) (.cons h2001 (.cons (wr64 (x := (l.length : Int) - 1) (by omega)) (all8 (show (0 : Int) ≤ (l.length : Int) - 1 by omega) (getg (l := l) (n := ((l.length : Int) - 1).toNat) eNd default (by omega)) h4007 (wr64 (x := (l.length : Int) - 1) (by omega)) (show (0 : Int) ≤ (l.length : Int) - 1 by omega) (getg (l := (hof_s l).1) (n := ((l.length : Int) - 1).toNat) eGu default (by omega)) h7002 h9002)))) (by kernel_rfl)
        · have p9002 := eq_of_beq h9002
          exact ok_run Tryz.func8 rfl rfl mixed 400 [(1001, .call [] [] (.tup [.ro 4 (((hof_s l).1).length) (((hof_s l).1).map eGu), .v (.int .i64 ((hof_s l).2))])), (2001, .b false), (4003, .as_ (.v (.int .i64 ((l.length : Int) - 1)))), (4004, .el (eNd (l.getD (((l.length : Int) - 1).toNat) default))), (4007, .b false), (6003, .as_ (.v (.int .i64 ((l.length : Int) - 1)))), (6004, .el (eGu (((hof_s l).1).getD (((l.length : Int) - 1).toNat) default))), (6007, .nm 701), (7002, .b false), (9002, .b true)] (.cons (hof_ok l (by first | omega | (first | omega | (simp only [List.length_append, List.length_cons, List.length_nil, List.length_map, List.length_take, List.length_drop, List.length_replicate, maxLen] <;> omega))) hn) (.cons h2001 (.cons (wr64 (x := (l.length : Int) - 1) (by omega)) (all8 (show (0 : Int) ≤ (l.length : Int) - 1 by omega) (getg (l := l) (n := ((l.length : Int) - 1).toNat) eNd default (by omega)) h4007 (wr64 (x := (l.length : Int) - 1) (by omega)) (show (0 : Int) ≤ (l.length : Int) - 1 by omega) (getg (l := (hof_s l).1) (n := ((l.length : Int) - 1).toNat) eGu default (by omega)) h7002 h9002)))) (by kernel_rfl)
      · have p7002 := eq_of_beq h7002
        exact ok_run Tryz.func8 rfl rfl mixed 400 [(1001, .call [] [] (.tup [.ro 4 (((hof_s l).1).length) (((hof_s l).1).map eGu), .v (.int .i64 ((hof_s l).2))])), (2001, .b false), (4003, .as_ (.v (.int .i64 ((l.length : Int) - 1)))), (4004, .el (eNd (l.getD (((l.length : Int) - 1).toNat) default))), (4007, .b false), (6003, .as_ (.v (.int .i64 ((l.length : Int) - 1)))), (6004, .el (eGu (((hof_s l).1).getD (((l.length : Int) - 1).toNat) default))), (6007, .nm 701), (7002, .b true)] (.cons (hof_ok l (by first | omega | (first | omega | (simp only [List.length_append, List.length_cons, List.length_nil, List.length_map, List.length_take, List.length_drop, List.length_replicate, maxLen] <;> omega))) hn) (.cons h2001 (all8 (wr64 (x := (l.length : Int) - 1) (by omega)) (show (0 : Int) ≤ (l.length : Int) - 1 by omega) (getg (l := l) (n := ((l.length : Int) - 1).toNat) eNd default (by omega)) h4007 (wr64 (x := (l.length : Int) - 1) (by omega)) (show (0 : Int) ≤ (l.length : Int) - 1 by omega) (getg (l := (hof_s l).1) (n := ((l.length : Int) - 1).toNat) eGu default (by omega)) h7002))) (by kernel_rfl)
    · have p4007 := bne_iff_ne.1 h4007
      exact ok_run Tryz.func8 rfl rfl mixed 400 [(1001, .call [] [] (.tup [.ro 4 (((hof_s l).1).length) (((hof_s l).1).map eGu), .v (.int .i64 ((hof_s l).2))])), (2001, .b false), (4003, .as_ (.v (.int .i64 ((l.length : Int) - 1)))), (4004, .el (eNd (l.getD (((l.length : Int) - 1).toNat) default))), (4007, .b true)] (all6 (hof_ok l (by first | omega | (first | omega | (simp only [List.length_append, List.length_cons, List.length_nil, List.length_map, List.length_take, List.length_drop, List.length_replicate, maxLen] <;> omega))) hn) h2001 (wr64 (x := (l.length : Int) - 1) (by omega)) (show (0 : Int) ≤ (l.length : Int) - 1 by omega) (getg (l := l) (n := ((l.length : Int) - 1).toNat) eNd default (by omega)) h4007) (by kernel_rfl)
  · have p2001 := bne_iff_ne.1 h2001
    exact ok_run Tryz.func8 rfl rfl mixed 400 [(1001, .call [] [] (.tup [.ro 4 (((hof_s l).1).length) (((hof_s l).1).map eGu), .v (.int .i64 ((hof_s l).2))])), (2001, .b true)] (all2 (hof_ok l (by first | omega | (first | omega | (simp only [List.length_append, List.length_cons, List.length_nil, List.length_map, List.length_take, List.length_drop, List.length_replicate, maxLen] <;> omega))) hn) h2001) (by kernel_rfl)
end Go.Proofs.YtdfifogicefkjaaGreatDoor.Sx.M5
/- What the functions of a chapter compute, as contracts; written by a program of this session. -/
open Go Go.Proofs Go.RowKit
namespace Go.Proofs.YtdfifogicefkjaaGreatDoor.Sx.M5
set_option linter.unusedVariables false
set_option linter.unusedSimpArgs false
def awake_c2  (l : List Nd) : Bool := (bif ((sdec_s l).1) == (1 : Int) then (bif ((sdec_s l).2) == (0 : Int) then (bif ((sof_s ((l.take 2).drop 0)).2) == (0 : Int) then (bif (((sof_s ((l.take 2).drop 0)).1).length : Int) == (2 : Int) then (((((sof_s ((l.take 2).drop 0)).1).getD 1 default).lo) == (0 : Int) && (((((sof_s ((l.take 2).drop 0)).1).getD 1 default).hi) == (255 : Int))) else false) else false) else false) else false)
set_option maxRecDepth 100000 in
theorem awake_c2ok   (l : List Nd) (hl : l.length = 4) : Good Tryz.prog 4 Tryz.f4.ntmps (look []) false (.v (.bool (awake_c2  l))) (postOf [] []) (cutAt Tryz.f4 2) [(0, .v (.bool false)), (1, .ro 6 l.length ((l).map eNd))] [] := by
  unfold awake_c2
  cases h4001 : (((sdec_s l).1) == (1 : Int))
  · have p4001 := ne_of_beq_false h4001
    exact good_run Tryz.func4 mixed 400 [(2001, .call [] [] (.tup [.v (.int .i64 ((sdec_s l).1)), .v (.int .i64 ((sdec_s l).2))])), (3001, .as_ (.ro 6 (((l.take 2).drop 0).length) (((l.take 2).drop 0).map eNd))), (3002, .call [] [] (.tup [.ro 4 (((sof_s ((l.take 2).drop 0)).1).length) (((sof_s ((l.take 2).drop 0)).1).map eGu), .v (.int .i64 ((sof_s ((l.take 2).drop 0)).2))])), (4001, .b false)] (all7 (sdec_ok l (by first | omega | (first | omega | (simp only [List.length_append, List.length_cons, List.length_nil, List.length_map, List.length_take, List.length_drop, List.length_replicate, maxLen] <;> omega)))) (show (0 : Int) ≤ 0 by decide) (show (0 : Int) ≤ 2 by omega) (show (2 : Int) ≤ (l.length : Int) by omega) (slE eNd 6 l 0 2 (by omega)) (sof_ok ((l.take 2).drop 0) (by first | omega | (first | omega | (simp only [List.length_append, List.length_cons, List.length_nil, List.length_map, List.length_take, List.length_drop, List.length_replicate, maxLen] <;> omega)))) h4001) (by kernel_rfl)
  · have p4001 := eq_of_beq h4001
    cases h4004 : (((sdec_s l).2) == (0 : Int))
    · have p4004 := ne_of_beq_false h4004
      exact good_run Tryz.func4 mixed 400 [(2001, .call [] [] (.tup [.v (.int .i64 ((sdec_s l).1)), .v (.int .i64 ((sdec_s l).2))])), (3001, .as_ (.ro 6 (((l.take 2).drop 0).length) (((l.take 2).drop 0).map eNd))), (3002, .call [] [] (.tup [.ro 4 (((sof_s ((l.take 2).drop 0)).1).length) (((sof_s ((l.take 2).drop 0)).1).map eGu), .v (.int .i64 ((sof_s ((l.take 2).drop 0)).2))])), (4001, .b true), (4004, .b false)] (all8 (sdec_ok l (by first | omega | (first | omega | (simp only [List.length_append, List.length_cons, List.length_nil, List.length_map, List.length_take, List.length_drop, List.length_replicate, maxLen] <;> omega)))) (show (0 : Int) ≤ 0 by decide) (show (0 : Int) ≤ 2 by omega) (show (2 : Int) ≤ (l.length : Int) by omega) (slE eNd 6 l 0 2 (by omega)) (sof_ok ((l.take 2).drop 0) (by first | omega | (first | omega | (simp only [List.length_append, List.length_cons, List.length_nil, List.length_map, List.length_take, List.length_drop, List.length_replicate, maxLen] <;> omega)))) h4001 h4004) (by kernel_rfl)
    · have p4004 := eq_of_beq h4004
      cases h4008 : (((sof_s ((l.take 2).drop 0)).2) == (0 : Int))
      · have p4008 := ne_of_beq_false h4008
        exact good_run Tryz.func4 mixed 400 [(2001, .call [] [] (.tup [.v (.int .i64 ((sdec_s l).1)), .v (.int .i64 ((sdec_s l).2))])), (3001, .as_ (.ro 6 (((l.take 2).drop 0).length) (((l.take 2).drop 0).map eNd))), (3002, .call [] [] (.tup [.ro 4 (((sof_s ((l.take 2).drop 0)).1).length) (((sof_s ((l.take 2).drop 0)).1).map eGu), .v (.int .i64 ((sof_s ((l.take 2).drop 0)).2))])), (4001, .b true), (4004, .b true), (4008, .b false)] (.cons (sdec_ok l (by first | omega | (first | omega | (simp only [List.length_append, List.length_cons, List.length_nil, List.length_map, List.length_take, List.length_drop, List.length_replicate, maxLen] <;> omega)))) (all8 (show (0 : Int) ≤ 0 by decide) (show (0 : Int) ≤ 2 by omega) (show (2 : Int) ≤ (l.length : Int) by omega) (slE eNd 6 l 0 2 (by omega)) (sof_ok ((l.take 2).drop 0) (by first | omega | (first | omega | (simp only [List.length_append, List.length_cons, List.length_nil, List.length_map, List.length_take, List.length_drop, List.length_replicate, maxLen] <;> omega)))) h4001 h4004 h4008)) (by kernel_rfl)
      · have p4008 := eq_of_beq h4008
        cases h4013 : ((((sof_s ((l.take 2).drop 0)).1).length : Int) == (2 : Int))
        · have p4013 := ne_of_beq_false h4013
          exact good_run Tryz.func4 mixed 400 [(2001, .call [] [] (.tup [.v (.int .i64 ((sdec_s l).1)), .v (.int .i64 ((sdec_s l).2))])), (3001, .as_ (.ro 6 (((l.take 2).drop 0).length) (((l.take 2).drop 0).map eNd))), (3002, .call [] [] (.tup [.ro 4 (((sof_s ((l.take 2).drop 0)).1).length) (((sof_s ((l.take 2).drop 0)).1).map eGu), .v (.int .i64 ((sof_s ((l.take 2).drop 0)).2))])), (4001, .b true), (4004, .b true), (4008, .b true), (4013, .b false)] (.cons (sdec_ok l (by first | omega | (first | omega | (simp only [List.length_append, List.length_cons, List.length_nil, List.length_map, List.length_take, List.length_drop, List.length_replicate, maxLen] <;> omega)))) (.cons (show (0 : Int) ≤ 0 by decide) (all8 (show (0 : Int) ≤ 2 by omega) (show (2 : Int) ≤ (l.length : Int) by omega) (slE eNd 6 l 0 2 (by omega)) (sof_ok ((l.take 2).drop 0) (by first | omega | (first | omega | (simp only [List.length_append, List.length_cons, List.length_nil, List.length_map, List.length_take, List.length_drop, List.length_replicate, maxLen] <;> omega)))) h4001 h4004 h4008 h4013))) (by kernel_rfl)
        · have p4013 := eq_of_beq h4013
          exact good_run Tryz.func4 mixed 400 [(2001, .call [] [] (.tup [.v (.int .i64 ((sdec_s l).1)), .v (.int .i64 ((sdec_s l).2))])), (3001, .as_ (.ro 6 (((l.take 2).drop 0).length) (((l.take 2).drop 0).map eNd))), (3002, .call [] [] (.tup [.ro 4 (((sof_s ((l.take 2).drop 0)).1).length) (((sof_s ((l.take 2).drop 0)).1).map eGu), .v (.int .i64 ((sof_s ((l.take 2).drop 0)).2))])), (4001, .b true), (4004, .b true), (4008, .b true), (4013, .b true), (4017, .el (eGu (((sof_s ((l.take 2).drop 0)).1).getD 1 default)))] (.cons (sdec_ok l (by first | omega | (first | omega | (simp only [List.length_append, List.length_cons, List.length_nil, List.length_map, List.length_take, List.length_drop, List.length_replicate, maxLen] <;> omega)))) (.cons (show (0 : Int) ≤ 0 by decide) (.cons (show (0 : Int) ≤ 2 by omega) (.cons (show (2 : Int) ≤ (l.length : Int) by omega) (all8 (slE eNd 6 l 0 2 (by omega)) (sof_ok ((l.take 2).drop 0) (by first | omega | (first | omega | (simp only [List.length_append, List.length_cons, List.length_nil, List.length_map, List.length_take, List.length_drop, List.length_replicate, maxLen] <;> omega)))) h4001 h4004 h4008 h4013 (show (0 : Int) ≤ 1 by decide) (getg (l := (sof_s ((l.take 2).drop 0)).1) (n := 1) eGu default (by omega))))))) (by kernel_rfl)
def awake_s  : Bool := (awake_c2  ([(⟨1, 8, 0, (fun _ => 0)⟩ : Nd), (⟨6, 64, 0, (fun _ => 0)⟩ : Nd), (⟨0, 64, 256, (fun _ => 0)⟩ : Nd), (⟨20, 1, 0, (upd (upd (fun _ => 0) 0 1) 1 2)⟩ : Nd)] : List Nd))
set_option maxRecDepth 100000 in
theorem awake_ok   : Ok Tryz.prog 4 [] (look []) (.v (.bool (awake_s ))) (postOf [] []) := by
  unfold awake_s
  refine ok_head (T := [(0, .v (.bool false)), (1, .own 701)]) (H := [(701, .row 6 46 (([(⟨1, 8, 0, (fun _ => 0)⟩ : Nd), (⟨6, 64, 0, (fun _ => 0)⟩ : Nd), (⟨0, 64, 256, (fun _ => 0)⟩ : Nd), (⟨20, 1, 0, (upd (upd (fun _ => 0) 0 1) 1 2)⟩ : Nd)] : List Nd).length) (([(⟨1, 8, 0, (fun _ => 0)⟩ : Nd), (⟨6, 64, 0, (fun _ => 0)⟩ : Nd), (⟨0, 64, 256, (fun _ => 0)⟩ : Nd), (⟨20, 1, 0, (upd (upd (fun _ => 0) 0 1) 1 2)⟩ : Nd)] : List Nd).map eNd))]) (todo := cutAt Tryz.f4 2) Tryz.func4 rfl rfl mixed 400 [(1005, .app 701 (([(⟨1, 8, 0, (fun _ => 0)⟩ : Nd), (⟨6, 64, 0, (fun _ => 0)⟩ : Nd), (⟨0, 64, 256, (fun _ => 0)⟩ : Nd), (⟨20, 1, 0, (upd (upd (fun _ => 0) 0 1) 1 2)⟩ : Nd)] : List Nd).length) (([(⟨1, 8, 0, (fun _ => 0)⟩ : Nd), (⟨6, 64, 0, (fun _ => 0)⟩ : Nd), (⟨0, 64, 256, (fun _ => 0)⟩ : Nd), (⟨20, 1, 0, (upd (upd (fun _ => 0) 0 1) 1 2)⟩ : Nd)] : List Nd).map eNd)), (2999, .b true)] (all1 (And.intro (Eq.refl (([(⟨1, 8, 0, (fun _ => 0)⟩ : Nd), (⟨6, 64, 0, (fun _ => 0)⟩ : Nd), (⟨0, 64, 256, (fun _ => 0)⟩ : Nd), (⟨20, 1, 0, (upd (upd (fun _ => 0) 0 1) 1 2)⟩ : Nd)] : List Nd).map eNd)) (Eq.refl (([(⟨1, 8, 0, (fun _ => 0)⟩ : Nd), (⟨6, 64, 0, (fun _ => 0)⟩ : Nd), (⟨0, 64, 256, (fun _ => 0)⟩ : Nd), (⟨20, 1, 0, (upd (upd (fun _ => 0) 0 1) 1 2)⟩ : Nd)] : List Nd).length)))) (by kernel_rfl) ?_
  refine Good.freeze (n := 701) (by rfl) ?_
  exact Good.cast (by kernel_rfl) (by kernel_rfl) (awake_c2ok  ([(⟨1, 8, 0, (fun _ => 0)⟩ : Nd), (⟨6, 64, 0, (fun _ => 0)⟩ : Nd), (⟨0, 64, 256, (fun _ => 0)⟩ : Nd), (⟨20, 1, 0, (upd (upd (fun _ => 0) 0 1) 1 2)⟩ : Nd)] : List Nd) (by (first | omega | (simp only [List.length_set, List.length_append, List.length_cons, List.length_nil, List.length_map, List.length_take, List.length_drop, List.length_replicate] <;> omega) | (simp only [List.length_set, List.length_append, List.length_cons, List.length_nil, List.length_map, List.length_take, List.length_drop, List.length_replicate] at * <;> omega))))

theorem awake_t : awake_s = true := by kernel_rfl
theorem awakeA : Ok Tryz.prog 4 [] (look []) (.v (.bool true)) (postOf [] []) := by
  have := awake_ok
  rwa [awake_t] at this

def lSke_l0 (l : List Nd) : Nat → Int → Bool
  | 0, _ => default
  | m + 1, i => (bif decide (i < (((sof_s (([] : List Nd) ++ l)).1).length : Int)) then (bif !(((((sof_s (([] : List Nd) ++ l)).1).getD ((i).toNat) default).lo) == ((((hof_s l).1).getD ((i).toNat) default).lo) && (((((sof_s (([] : List Nd) ++ l)).1).getD ((i).toNat) default).hi) == ((((hof_s l).1).getD ((i).toNat) default).hi))) then false else (bif !(((((sof_s (([] : List Nd) ++ l)).1).getD ((i).toNat) default).z) == ((((hof_s l).1).getD ((i).toNat) default).z) && (((((sof_s (([] : List Nd) ++ l)).1).getD ((i).toNat) default).e) == ((((hof_s l).1).getD ((i).toNat) default).e))) then false else (lSke_l0 l m (i + 1)))) else true)
set_option maxRecDepth 100000 in
theorem lSke_lok0 (l : List Nd) (hn : ∀ j, U64 (l.getD j default).n) : ∀ (m : Nat) (i : Int), (0 ≤ i) → ((sof_s ([] ++ l)).1.length = (hof_s l).1.length) → ((hof_s l).1.length ≤ 300) → (sof_s ([] ++ l)).1.length - (i : Int).toNat < m → Good Tryz.prog 3 Tryz.f3.ntmps (look []) false (.v (.bool (lSke_l0 l m i))) (postOf [] []) (headAt Tryz.f3 0) [(2, .v (.bool false)), (3, .ro 4 (((sof_s (([] : List Nd) ++ l)).1).length) (((sof_s (([] : List Nd) ++ l)).1).map eGu)), (5, .ro 4 (((hof_s l).1).length) (((hof_s l).1).map eGu)), (11, .v (.int .i64 i))] [] := by
  intro m
  induction m with
  | zero => intro i i0 ie ib hm; exact absurd hm (Nat.not_lt_zero _)
  | succ m ih =>
    intro i i0 ie ib hm
    rw [lSke_l0]
    cases h12003 : (decide (i < (((sof_s (([] : List Nd) ++ l)).1).length : Int)))
    · have p12003 := of_decide_eq_false h12003
      exact good_run Tryz.func3 mixed 400 [(12003, .b false)] (all1 h12003) (by kernel_rfl)
    · have p12003 := of_decide_eq_true h12003
      cases h14010 : (!(((((sof_s (([] : List Nd) ++ l)).1).getD ((i).toNat) default).lo) == ((((hof_s l).1).getD ((i).toNat) default).lo) && (((((sof_s (([] : List Nd) ++ l)).1).getD ((i).toNat) default).hi) == ((((hof_s l).1).getD ((i).toNat) default).hi))))
      · have p14010 := notF h14010
        cases h14022 : (!(((((sof_s (([] : List Nd) ++ l)).1).getD ((i).toNat) default).z) == ((((hof_s l).1).getD ((i).toNat) default).z) && (((((sof_s (([] : List Nd) ++ l)).1).getD ((i).toNat) default).e) == ((((hof_s l).1).getD ((i).toNat) default).e))))
        · have p14022 := notF h14022
          refine good_head (T := [(2, .v (.bool false)), (3, .ro 4 (((sof_s (([] : List Nd) ++ l)).1).length) (((sof_s (([] : List Nd) ++ l)).1).map eGu)), (5, .ro 4 (((hof_s l).1).length) (((hof_s l).1).map eGu)), (11, .v (.int .i64 (i + 1)))]) (H := []) (todo' := headAt Tryz.f3 0) Tryz.func3 mixed 400 [(12003, .b true), (14002, .el (eGu (((sof_s (([] : List Nd) ++ l)).1).getD ((i).toNat) default))), (14007, .el (eGu (((hof_s l).1).getD ((i).toNat) default))), (14010, .b false), (14014, .el (eGu (((sof_s (([] : List Nd) ++ l)).1).getD ((i).toNat) default))), (14019, .el (eGu (((hof_s l).1).getD ((i).toNat) default))), (14022, .b false), (13001, .as_ (.v (.int .i64 (i + 1))))] (.cons h12003 (.cons (show (0 : Int) ≤ i by omega) (.cons (getg (l := (sof_s (([] : List Nd) ++ l)).1) (n := (i).toNat) eGu default (by omega)) (.cons (show (0 : Int) ≤ i by omega) (all8 (getg (l := (hof_s l).1) (n := (i).toNat) eGu default (by omega)) h14010 (show (0 : Int) ≤ i by omega) (getg (l := (sof_s (([] : List Nd) ++ l)).1) (n := (i).toNat) eGu default (by omega)) (show (0 : Int) ≤ i by omega) (getg (l := (hof_s l).1) (n := (i).toNat) eGu default (by omega)) h14022 (wr64 (x := i + 1) (by omega))))))) (by kernel_rfl) ?_
          exact ih (i + 1) (by omega) (by omega) (by omega) (by omega)
        · have p14022 := notT h14022
          exact good_run Tryz.func3 mixed 400 [(12003, .b true), (14002, .el (eGu (((sof_s (([] : List Nd) ++ l)).1).getD ((i).toNat) default))), (14007, .el (eGu (((hof_s l).1).getD ((i).toNat) default))), (14010, .b false), (14014, .el (eGu (((sof_s (([] : List Nd) ++ l)).1).getD ((i).toNat) default))), (14019, .el (eGu (((hof_s l).1).getD ((i).toNat) default))), (14022, .b true)] (.cons h12003 (.cons (show (0 : Int) ≤ i by omega) (.cons (getg (l := (sof_s (([] : List Nd) ++ l)).1) (n := (i).toNat) eGu default (by omega)) (all8 (show (0 : Int) ≤ i by omega) (getg (l := (hof_s l).1) (n := (i).toNat) eGu default (by omega)) h14010 (show (0 : Int) ≤ i by omega) (getg (l := (sof_s (([] : List Nd) ++ l)).1) (n := (i).toNat) eGu default (by omega)) (show (0 : Int) ≤ i by omega) (getg (l := (hof_s l).1) (n := (i).toNat) eGu default (by omega)) h14022)))) (by kernel_rfl)
      · have p14010 := notT h14010
        exact good_run Tryz.func3 mixed 400 [(12003, .b true), (14002, .el (eGu (((sof_s (([] : List Nd) ++ l)).1).getD ((i).toNat) default))), (14007, .el (eGu (((hof_s l).1).getD ((i).toNat) default))), (14010, .b true)] (all6 h12003 (show (0 : Int) ≤ i by omega) (getg (l := (sof_s (([] : List Nd) ++ l)).1) (n := (i).toNat) eGu default (by omega)) (show (0 : Int) ≤ i by omega) (getg (l := (hof_s l).1) (n := (i).toNat) eGu default (by omega)) h14010) (by kernel_rfl)
def lSke_s (l : List Nd) : Bool := (bif decide ((l.length : Int) > (300 : Int)) then true else (bif ((sof_s (([] : List Nd) ++ l)).2) != ((hof_s l).2) then false else (bif (((sof_s (([] : List Nd) ++ l)).1).length : Int) != (((hof_s l).1).length : Int) then false else (bif ((sdec_s l).1) != ((hdec_s l).1) then false else (bif ((sdec_s l).2) != ((hdec_s l).2) then false else (lSke_l0 l ((sof_s ([] ++ l)).1.length - ((0) : Int).toNat + 1) 0))))))
set_option maxRecDepth 100000 in
theorem lSke_ok (l : List Nd) (hn : ∀ j, U64 (l.getD j default).n) : Ok Tryz.prog 3 [.ro 6 l.length ((l).map eNd)] (look []) (.v (.bool (lSke_s l))) (postOf [] []) := by
  unfold lSke_s
  have e3 := hof_le l
  cases h3002 : (decide ((l.length : Int) > (300 : Int)))
  · have p3002 := of_decide_eq_false h3002
    cases h9002 : (((sof_s (([] : List Nd) ++ l)).2) != ((hof_s l).2))
    · have p9002 := bne_eq_false_iff_eq.1 h9002
      cases h9008 : ((((sof_s (([] : List Nd) ++ l)).1).length : Int) != (((hof_s l).1).length : Int))
      · have p9008 := bne_eq_false_iff_eq.1 h9008
        cases h9013 : (((sdec_s l).1) != ((hdec_s l).1))
        · have p9013 := bne_eq_false_iff_eq.1 h9013
          cases h9018 : (((sdec_s l).2) != ((hdec_s l).2))
          · have p9018 := bne_eq_false_iff_eq.1 h9018
            refine ok_head (T := [(2, .v (.bool false)), (3, .ro 4 (((sof_s (([] : List Nd) ++ l)).1).length) (((sof_s (([] : List Nd) ++ l)).1).map eGu)), (5, .ro 4 (((hof_s l).1).length) (((hof_s l).1).map eGu)), (11, .v (.int .i64 0))]) (H := []) (todo := headAt Tryz.f3 0) Tryz.func3 rfl rfl mixed 400 [(1000, .call [] [] (.v (.bool true))), (3002, .b false), (5000, .app 701 (([] : List Nd).length) (([] : List Nd).map eNd)), (5002, .app 702 ((([] : List Nd) ++ l).length) ((([] : List Nd) ++ l).map eNd)), (5003, .call [702] [(702, none)] (.tup [.ro 4 (((sof_s (([] : List Nd) ++ l)).1).length) (((sof_s (([] : List Nd) ++ l)).1).map eGu), .v (.int .i64 ((sof_s (([] : List Nd) ++ l)).2))])), (6001, .call [] [] (.tup [.ro 4 (((hof_s l).1).length) (((hof_s l).1).map eGu), .v (.int .i64 ((hof_s l).2))])), (7001, .call [] [] (.tup [.v (.int .i64 ((sdec_s l).1)), .v (.int .i64 ((sdec_s l).2))])), (8001, .call [] [] (.tup [.v (.int .i64 ((hdec_s l).1)), .v (.int .i64 ((hdec_s l).2))])), (9002, .b false), (9008, .b false), (9013, .b false), (9018, .b false)] (.cons awakeA (.cons h3002 (.cons (And.intro (Eq.refl (([] : List Nd).map eNd)) (Eq.refl (([] : List Nd).length))) (.cons (oneE eNd (fun _ => rfl) l) (.cons (show (([] : List Nd).length + l.length) * 48 ≤ 140737488355328 by (first | omega | (simp only [List.length_append, List.length_cons, List.length_nil, List.length_map, List.length_take, List.length_drop, List.length_replicate, maxLen] <;> omega))) (.cons (show ([] : List Nd).length + l.length ≤ maxLen by (first | omega | (simp only [List.length_append, List.length_cons, List.length_nil, List.length_map, List.length_take, List.length_drop, List.length_replicate, maxLen] <;> omega))) (.cons (appE eNd ([] : List Nd) l) (all8 (Ok.eat1 (args := [.own 702]) (n := 702) (e := 46) (sz := 6) (k := ((([] : List Nd) ++ l).length)) (rows := ((([] : List Nd) ++ l).map eNd)) (sof_ok (([] : List Nd) ++ l) (by first | omega | (first | omega | (simp only [List.length_append, List.length_cons, List.length_nil, List.length_map, List.length_take, List.length_drop, List.length_replicate, maxLen] <;> omega)))) rfl) (hof_ok l (by first | omega | (first | omega | (simp only [List.length_append, List.length_cons, List.length_nil, List.length_map, List.length_take, List.length_drop, List.length_replicate, maxLen] <;> omega))) hn) (sdec_ok l (by first | omega | (first | omega | (simp only [List.length_append, List.length_cons, List.length_nil, List.length_map, List.length_take, List.length_drop, List.length_replicate, maxLen] <;> omega)))) (hdec_ok l (by first | omega | (first | omega | (simp only [List.length_append, List.length_cons, List.length_nil, List.length_map, List.length_take, List.length_drop, List.length_replicate, maxLen] <;> omega))) hn) h9002 h9008 h9013 h9018)))))))) (by kernel_rfl) ?_
            exact lSke_lok0 l hn _ 0 (by omega) (by omega) (by omega) (Nat.lt_succ_self _)
          · have p9018 := bne_iff_ne.1 h9018
            exact ok_run Tryz.func3 rfl rfl mixed 400 [(1000, .call [] [] (.v (.bool true))), (3002, .b false), (5000, .app 701 (([] : List Nd).length) (([] : List Nd).map eNd)), (5002, .app 702 ((([] : List Nd) ++ l).length) ((([] : List Nd) ++ l).map eNd)), (5003, .call [702] [(702, none)] (.tup [.ro 4 (((sof_s (([] : List Nd) ++ l)).1).length) (((sof_s (([] : List Nd) ++ l)).1).map eGu), .v (.int .i64 ((sof_s (([] : List Nd) ++ l)).2))])), (6001, .call [] [] (.tup [.ro 4 (((hof_s l).1).length) (((hof_s l).1).map eGu), .v (.int .i64 ((hof_s l).2))])), (7001, .call [] [] (.tup [.v (.int .i64 ((sdec_s l).1)), .v (.int .i64 ((sdec_s l).2))])), (8001, .call [] [] (.tup [.v (.int .i64 ((hdec_s l).1)), .v (.int .i64 ((hdec_s l).2))])), (9002, .b false), (9008, .b false), (9013, .b false), (9018, .b true)] (.cons awakeA (.cons h3002 (.cons (And.intro (Eq.refl (([] : List Nd).map eNd)) (Eq.refl (([] : List Nd).length))) (.cons (oneE eNd (fun _ => rfl) l) (.cons (show (([] : List Nd).length + l.length) * 48 ≤ 140737488355328 by (first | omega | (simp only [List.length_append, List.length_cons, List.length_nil, List.length_map, List.length_take, List.length_drop, List.length_replicate, maxLen] <;> omega))) (.cons (show ([] : List Nd).length + l.length ≤ maxLen by (first | omega | (simp only [List.length_append, List.length_cons, List.length_nil, List.length_map, List.length_take, List.length_drop, List.length_replicate, maxLen] <;> omega))) (.cons (appE eNd ([] : List Nd) l) (all8 (Ok.eat1 (args := [.own 702]) (n := 702) (e := 46) (sz := 6) (k := ((([] : List Nd) ++ l).length)) (rows := ((([] : List Nd) ++ l).map eNd)) (sof_ok (([] : List Nd) ++ l) (by first | omega | (first | omega | (simp only [List.length_append, List.length_cons, List.length_nil, List.length_map, List.length_take, List.length_drop, List.length_replicate, maxLen] <;> omega)))) rfl) (hof_ok l (by first | omega | (first | omega | (simp only [List.length_append, List.length_cons, List.length_nil, List.length_map, List.length_take, List.length_drop, List.length_replicate, maxLen] <;> omega))) hn) (sdec_ok l (by first | omega | (first | omega | (simp only [List.length_append, List.length_cons, List.length_nil, List.length_map, List.length_take, List.length_drop, List.length_replicate, maxLen] <;> omega)))) (hdec_ok l (by first | omega | (first | omega | (simp only [List.length_append, List.length_cons, List.length_nil, List.length_map, List.length_take, List.length_drop, List.length_replicate, maxLen] <;> omega))) hn) h9002 h9008 h9013 h9018)))))))) (by kernel_rfl)
        · have p9013 := bne_iff_ne.1 h9013
          exact ok_run Tryz.func3 rfl rfl mixed 400 [(1000, .call [] [] (.v (.bool true))), (3002, .b false), (5000, .app 701 (([] : List Nd).length) (([] : List Nd).map eNd)), (5002, .app 702 ((([] : List Nd) ++ l).length) ((([] : List Nd) ++ l).map eNd)), (5003, .call [702] [(702, none)] (.tup [.ro 4 (((sof_s (([] : List Nd) ++ l)).1).length) (((sof_s (([] : List Nd) ++ l)).1).map eGu), .v (.int .i64 ((sof_s (([] : List Nd) ++ l)).2))])), (6001, .call [] [] (.tup [.ro 4 (((hof_s l).1).length) (((hof_s l).1).map eGu), .v (.int .i64 ((hof_s l).2))])), (7001, .call [] [] (.tup [.v (.int .i64 ((sdec_s l).1)), .v (.int .i64 ((sdec_s l).2))])), (8001, .call [] [] (.tup [.v (.int .i64 ((hdec_s l).1)), .v (.int .i64 ((hdec_s l).2))])), (9002, .b false), (9008, .b false), (9013, .b true)] (.cons awakeA (.cons h3002 (.cons (And.intro (Eq.refl (([] : List Nd).map eNd)) (Eq.refl (([] : List Nd).length))) (.cons (oneE eNd (fun _ => rfl) l) (.cons (show (([] : List Nd).length + l.length) * 48 ≤ 140737488355328 by (first | omega | (simp only [List.length_append, List.length_cons, List.length_nil, List.length_map, List.length_take, List.length_drop, List.length_replicate, maxLen] <;> omega))) (.cons (show ([] : List Nd).length + l.length ≤ maxLen by (first | omega | (simp only [List.length_append, List.length_cons, List.length_nil, List.length_map, List.length_take, List.length_drop, List.length_replicate, maxLen] <;> omega))) (all8 (appE eNd ([] : List Nd) l) (Ok.eat1 (args := [.own 702]) (n := 702) (e := 46) (sz := 6) (k := ((([] : List Nd) ++ l).length)) (rows := ((([] : List Nd) ++ l).map eNd)) (sof_ok (([] : List Nd) ++ l) (by first | omega | (first | omega | (simp only [List.length_append, List.length_cons, List.length_nil, List.length_map, List.length_take, List.length_drop, List.length_replicate, maxLen] <;> omega)))) rfl) (hof_ok l (by first | omega | (first | omega | (simp only [List.length_append, List.length_cons, List.length_nil, List.length_map, List.length_take, List.length_drop, List.length_replicate, maxLen] <;> omega))) hn) (sdec_ok l (by first | omega | (first | omega | (simp only [List.length_append, List.length_cons, List.length_nil, List.length_map, List.length_take, List.length_drop, List.length_replicate, maxLen] <;> omega)))) (hdec_ok l (by first | omega | (first | omega | (simp only [List.length_append, List.length_cons, List.length_nil, List.length_map, List.length_take, List.length_drop, List.length_replicate, maxLen] <;> omega))) hn) h9002 h9008 h9013))))))) (by kernel_rfl)
      · have p9008 := bne_iff_ne.1 h9008
        exact ok_run Tryz.func3 rfl rfl mixed 400 [(1000, .call [] [] (.v (.bool true))), (3002, .b false), (5000, .app 701 (([] : List Nd).length) (([] : List Nd).map eNd)), (5002, .app 702 ((([] : List Nd) ++ l).length) ((([] : List Nd) ++ l).map eNd)), (5003, .call [702] [(702, none)] (.tup [.ro 4 (((sof_s (([] : List Nd) ++ l)).1).length) (((sof_s (([] : List Nd) ++ l)).1).map eGu), .v (.int .i64 ((sof_s (([] : List Nd) ++ l)).2))])), (6001, .call [] [] (.tup [.ro 4 (((hof_s l).1).length) (((hof_s l).1).map eGu), .v (.int .i64 ((hof_s l).2))])), (7001, .call [] [] (.tup [.v (.int .i64 ((sdec_s l).1)), .v (.int .i64 ((sdec_s l).2))])), (8001, .call [] [] (.tup [.v (.int .i64 ((hdec_s l).1)), .v (.int .i64 ((hdec_s l).2))])), (9002, .b false), (9008, .b true)] (.cons awakeA (.cons h3002 (.cons (And.intro (Eq.refl (([] : List Nd).map eNd)) (Eq.refl (([] : List Nd).length))) (.cons (oneE eNd (fun _ => rfl) l) (.cons (show (([] : List Nd).length + l.length) * 48 ≤ 140737488355328 by (first | omega | (simp only [List.length_append, List.length_cons, List.length_nil, List.length_map, List.length_take, List.length_drop, List.length_replicate, maxLen] <;> omega))) (all8 (show ([] : List Nd).length + l.length ≤ maxLen by (first | omega | (simp only [List.length_append, List.length_cons, List.length_nil, List.length_map, List.length_take, List.length_drop, List.length_replicate, maxLen] <;> omega))) (appE eNd ([] : List Nd) l) (Ok.eat1 (args := [.own 702]) (n := 702) (e := 46) (sz := 6) (k := ((([] : List Nd) ++ l).length)) (rows := ((([] : List Nd) ++ l).map eNd)) (sof_ok (([] : List Nd) ++ l) (by first | omega | (first | omega | (simp only [List.length_append, List.length_cons, List.length_nil, List.length_map, List.length_take, List.length_drop, List.length_replicate, maxLen] <;> omega)))) rfl) (hof_ok l (by first | omega | (first | omega | (simp only [List.length_append, List.length_cons, List.length_nil, List.length_map, List.length_take, List.length_drop, List.length_replicate, maxLen] <;> omega))) hn) (sdec_ok l (by first | omega | (first | omega | (simp only [List.length_append, List.length_cons, List.length_nil, List.length_map, List.length_take, List.length_drop, List.length_replicate, maxLen] <;> omega)))) (hdec_ok l (by first | omega | (first | omega | (simp only [List.length_append, List.length_cons, List.length_nil, List.length_map, List.length_take, List.length_drop, List.length_replicate, maxLen] <;> omega))) hn) h9002 h9008)))))) (by kernel_rfl)
    · have p9002 := bne_iff_ne.1 h9002
      exact ok_run Tryz.func3 rfl rfl mixed 400 [(1000, .call [] [] (.v (.bool true))), (3002, .b false), (5000, .app 701 (([] : List Nd).length) (([] : List Nd).map eNd)), (5002, .app 702 ((([] : List Nd) ++ l).length) ((([] : List Nd) ++ l).map eNd)), (5003, .call [702] [(702, none)] (.tup [.ro 4 (((sof_s (([] : List Nd) ++ l)).1).length) (((sof_s (([] : List Nd) ++ l)).1).map eGu), .v (.int .i64 ((sof_s (([] : List Nd) ++ l)).2))])), (6001, .call [] [] (.tup [.ro 4 (((hof_s l).1).length) (((hof_s l).1).map eGu), .v (.int .i64 ((hof_s l).2))])), (7001, .call [] [] (.tup [.v (.int .i64 ((sdec_s l).1)), .v (.int .i64 ((sdec_s l).2))])), (8001, .call [] [] (.tup [.v (.int .i64 ((hdec_s l).1)), .v (.int .i64 ((hdec_s l).2))])), (9002, .b true)] (.cons awakeA (.cons h3002 (.cons (And.intro (Eq.refl (([] : List Nd).map eNd)) (Eq.refl (([] : List Nd).length))) (.cons (oneE eNd (fun _ => rfl) l) (all8 (show (([] : List Nd).length + l.length) * 48 ≤ 140737488355328 by (first | omega | (simp only [List.length_append, List.length_cons, List.length_nil, List.length_map, List.length_take, List.length_drop, List.length_replicate, maxLen] <;> omega))) (show ([] : List Nd).length + l.length ≤ maxLen by (first | omega | (simp only [List.length_append, List.length_cons, List.length_nil, List.length_map, List.length_take, List.length_drop, List.length_replicate, maxLen] <;> omega))) (appE eNd ([] : List Nd) l) (Ok.eat1 (args := [.own 702]) (n := 702) (e := 46) (sz := 6) (k := ((([] : List Nd) ++ l).length)) (rows := ((([] : List Nd) ++ l).map eNd)) (sof_ok (([] : List Nd) ++ l) (by first | omega | (first | omega | (simp only [List.length_append, List.length_cons, List.length_nil, List.length_map, List.length_take, List.length_drop, List.length_replicate, maxLen] <;> omega)))) rfl) (hof_ok l (by first | omega | (first | omega | (simp only [List.length_append, List.length_cons, List.length_nil, List.length_map, List.length_take, List.length_drop, List.length_replicate, maxLen] <;> omega))) hn) (sdec_ok l (by first | omega | (first | omega | (simp only [List.length_append, List.length_cons, List.length_nil, List.length_map, List.length_take, List.length_drop, List.length_replicate, maxLen] <;> omega)))) (hdec_ok l (by first | omega | (first | omega | (simp only [List.length_append, List.length_cons, List.length_nil, List.length_map, List.length_take, List.length_drop, List.length_replicate, maxLen] <;> omega))) hn) h9002))))) (by kernel_rfl)
  · have p3002 := of_decide_eq_true h3002
    exact ok_run Tryz.func3 rfl rfl mixed 400 [(1000, .call [] [] (.v (.bool true))), (3002, .b true)] (all2 awakeA h3002) (by kernel_rfl)
end Go.Proofs.YtdfifogicefkjaaGreatDoor.Sx.M5
