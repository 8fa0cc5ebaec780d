/- The law MachineReach, plain: what both sides come to. -/
import Derived.Test.YteolbecihipcaaaM10
open Go Go.Proofs Go.RowKit
namespace Go.Proofs.Yteolbecihipcaaa.Sx.M5
set_option linter.unusedVariables false
set_option linter.unusedSimpArgs false
abbrev RunT := List Int × Int × (Nat → Int) × List Int × Int
abbrev lim (s : Int) : Int := max 0 (min s 4096)
theorem run_l0_ext (p : Img) (inp : List Int) (s : Int) : ∀ (m : Nat) (k pl : Int) (regs : Nat → Int) (ms os : List Int) (en : Int) (path : List Int), (lim s - k).toNat < m →
    (∃ r, (run_l0 p inp s m k pl regs ms os en path).1 = path ++ r) ∧ (run_l0 p inp s m k pl regs ms os en path).2.2.2.2 = 0 := by
  intro m
  induction m with
  | zero => intro k pl regs ms os en path hm; exact absurd hm (Nat.not_lt_zero _)
  | succ m ih =>
    intro k pl regs ms os en path hm
    rw [run_l0]
    refine bifP (P := fun r : RunT => (∃ x, r.1 = path ++ x) ∧ r.2.2.2.2 = 0) (fun h => ?_) (fun _ => ⟨⟨[], (List.append_nil _).symm⟩, rfl⟩)
    have h := of_decide_eq_true h
    refine bifP (P := fun r : RunT => (∃ x, r.1 = path ++ x) ∧ r.2.2.2.2 = 0) (fun _ => ⟨⟨[], (List.append_nil _).symm⟩, rfl⟩) (fun _ => ?_)
    obtain ⟨⟨r, hr⟩, h2⟩ := ih (k + 1) (one_s p inp pl regs ms os).2.1 (one_s p inp pl regs ms os).2.2.1 (one_s p inp pl regs ms os).2.2.2.1 (one_s p inp pl regs ms os).2.2.2.2 (one_s p inp pl regs ms os).1 (path ++ [(one_s p inp pl regs ms os).2.1]) (by simp only [lim] at hm ⊢; omega)
    exact ⟨⟨[(one_s p inp pl regs ms os).2.1] ++ r, by rw [hr, List.append_assoc]⟩, h2⟩
theorem run_l0_more (p : Img) (inp : List Int) {s s' : Int} (hs : s ≤ s') : ∀ (m m' : Nat) (k pl : Int) (regs : Nat → Int) (ms os : List Int) (en : Int) (path : List Int), (lim s - k).toNat < m → (lim s' - k).toNat < m' →
    ∃ r, (run_l0 p inp s' m' k pl regs ms os en path).1 = (run_l0 p inp s m k pl regs ms os en path).1 ++ r := by
  intro m
  induction m with
  | zero => intro m' k pl regs ms os en path hm; exact absurd hm (Nat.not_lt_zero _)
  | succ m ih =>
    intro m' k pl regs ms os en path hm hm'
    cases m' with
    | zero => exact absurd hm' (Nat.not_lt_zero _)
    | succ m' =>
      by_cases h : k < lim s
      · have h' : k < lim s' := by simp only [lim] at h ⊢; omega
        rw [run_l0, run_l0, decide_eq_true h, decide_eq_true h']
        simp only [cond_true]
        cases h2 : ((one_s p inp pl regs ms os).1 != (0 : Int)) with
        | true => exact ⟨[], (List.append_nil _).symm⟩
        | false =>
          simp only [cond_false]
          exact ih m' _ _ _ _ _ _ _ (by simp only [lim] at hm h ⊢; omega) (by simp only [lim] at hm' h' ⊢; omega)
      · obtain ⟨⟨r, hr⟩, _⟩ := run_l0_ext p inp s' (m' + 1) k pl regs ms os en path hm'
        refine ⟨r, ?_⟩
        rw [hr]
        congr 1
        rw [run_l0, decide_eq_false h]; rfl
theorem run_err (p : Img) (inp : List Int) (s : Int) : ((run_s p inp s).2.2.2.2 ≠ 0 → (run_s p inp s).1 = []) := by
  unfold run_s
  refine bifP (P := fun r : RunT => r.2.2.2.2 ≠ 0 → r.1 = []) (fun _ _ => rfl) (fun _ => bifP (P := fun r : RunT => r.2.2.2.2 ≠ 0 → r.1 = []) (fun _ _ => rfl) (fun _ h => ?_))
  exact absurd (run_l0_ext p inp s _ _ _ _ _ _ _ _ (Nat.lt_succ_self _)).2 h
theorem run_more (p : Img) (inp : List Int) {s s' : Int} (hs : s ≤ s') : (run_s p inp s').2.2.2.2 = (run_s p inp s).2.2.2.2 ∧ ∃ r, (run_s p inp s').1 = (run_s p inp s).1 ++ r := by
  unfold run_s
  cases h1 : ((encode_s p).2 != (0 : Int)) with
  | true => exact ⟨rfl, [], rfl⟩
  | false =>
    simp only [cond_false]
    cases h2 : decide ((inp.length : Int) > p.input) with
    | true => exact ⟨rfl, [], rfl⟩
    | false =>
      simp only [cond_false]
      exact ⟨(run_l0_ext p inp s' _ _ _ _ _ _ _ _ (Nat.lt_succ_self _)).2.trans (run_l0_ext p inp s _ _ _ _ _ _ _ _ (Nat.lt_succ_self _)).2.symm, run_l0_more p inp hs _ _ _ _ _ _ _ _ _ (Nat.lt_succ_self _) (Nat.lt_succ_self _)⟩
theorem first_eq (l : List Int) (v : Int) : first_s l v = idxi_s l v := by
  have key : ∀ (m : Nat) (i : Int), first_l0 l v m i = idxi_l0 l v m i := by
    intro m
    induction m with
    | zero => intro i; rfl
    | succ m ih => intro i; rw [first_l0, idxi_l0, ih, show (l.getD i.toNat 0 == v) = (v == l.getD i.toNat 0) from Bool.beq_comm]
  exact key _ _
theorem idxi_l0_rng (l : List Int) (v : Int) : ∀ (m i : Nat), l.length - i < m → i ≤ l.length → idxi_l0 l v m i = -1 ∨ (0 ≤ idxi_l0 l v m i ∧ idxi_l0 l v m i < l.length) := by
  intro m
  induction m with
  | zero => intro i hm; exact absurd hm (Nat.not_lt_zero _)
  | succ m ih =>
    intro i hm hi
    rw [idxi_l0]
    refine bifP (P := fun r : Int => r = -1 ∨ (0 ≤ r ∧ r < l.length)) (fun h => ?_) (fun _ => .inl rfl)
    have h := of_decide_eq_true h
    refine bifP (P := fun r : Int => r = -1 ∨ (0 ≤ r ∧ r < l.length)) (fun _ => .inr ⟨by omega, h⟩) (fun _ => ?_)
    exact ih (i + 1) (by omega) (by omega)
theorem idxi_rng (l : List Int) (v : Int) : idxi_s l v = -1 ∨ (0 ≤ idxi_s l v ∧ idxi_s l v < l.length) := idxi_l0_rng l v _ 0 (Nat.lt_succ_self _) (Nat.zero_le _)
theorem idxi_l0_app (l r : List Int) (v : Int) : ∀ (m m' i : Nat), l.length - i < m → (l ++ r).length - i < m' → 0 ≤ idxi_l0 l v m i → idxi_l0 (l ++ r) v m' i = idxi_l0 l v m i := by
  intro m
  induction m with
  | zero => intro m' i hm; exact absurd hm (Nat.not_lt_zero _)
  | succ m ih =>
    intro m' i hm hm' h
    cases m' with
    | zero => exact absurd hm' (Nat.not_lt_zero _)
    | succ m' =>
      have hl : (l ++ r).length = l.length + r.length := List.length_append
      by_cases c : (i : Int) < (l.length : Int)
      · have c' : (i : Int) < ((l ++ r).length : Int) := by rw [hl]; omega
        have u1 : idxi_l0 l v (m + 1) i = (bif v == l.getD (i : Int).toNat 0 then (i : Int) else idxi_l0 l v m (i + 1)) := by rw [idxi_l0, decide_eq_true c]; rfl
        have u2 : idxi_l0 (l ++ r) v (m' + 1) i = (bif v == (l ++ r).getD (i : Int).toNat 0 then (i : Int) else idxi_l0 (l ++ r) v m' (i + 1)) := by rw [idxi_l0, decide_eq_true c']; rfl
        rw [u1] at h ⊢
        rw [u2]
        have e : (l ++ r).getD (i : Int).toNat 0 = l.getD (i : Int).toNat 0 := by
          rw [Int.toNat_natCast, List.getD_eq_getElem?_getD, List.getD_eq_getElem?_getD, List.getElem?_append_left (by omega)]
        rw [e]
        cases h2 : (v == l.getD (i : Int).toNat 0) with
        | true => rfl
        | false =>
          rw [h2] at h
          simp only [cond_false] at h ⊢
          exact ih m' (i + 1) (by omega) (by omega) h
      · rw [idxi_l0, decide_eq_false c] at h
        exact absurd (show (0 : Int) ≤ -1 from h) (by decide)
theorem idxi_app (l r : List Int) (v : Int) (h : 0 ≤ idxi_s l v) : idxi_s (l ++ r) v = idxi_s l v := idxi_l0_app l r v _ _ 0 (Nat.lt_succ_self _) (Nat.lt_succ_self _) h
theorem lRea_true (p : Img) (inp : List Int) (target steps more : Int) : lRea_s p inp target steps more = true := by
  unfold lRea_s
  refine bifP (P := fun r : Bool => r = true) (fun _ => rfl) fun _ => bifP (P := fun r : Bool => r = true) (fun _ => rfl) fun _ => ?_
  rw [first_eq]
  by_cases he : (run_s p inp steps).2.2.2.2 = 0
  · have hr : reach_s p inp target steps = (max (idxi_s (run_s p inp steps).1 target) 0, decide (idxi_s (run_s p inp steps).1 target ≥ 0)) := by
      unfold reach_s; rw [he]; rfl
    rw [hr]
    by_cases hi : idxi_s (run_s p inp steps).1 target ≥ 0
    · have hi' : 0 ≤ idxi_s (run_s p inp steps).1 target := hi
      have hl := run_len p inp steps
      have hx := (idxi_rng (run_s p inp steps).1 target).resolve_left (by omega)
      rw [decide_eq_true hi, Int.max_eq_left hi']
      simp only [Bool.not_true, cond_false]
      rw [decide_eq_true (show idxi_s (run_s p inp steps).1 target ≤ max steps 0 by omega), beq_self_eq_true]
      simp only [cond_true]
      refine bifP (P := fun r : Bool => r = true) (fun _ => rfl) fun hm => ?_
      have hm := of_decide_eq_false hm
      obtain ⟨e2, r, e3⟩ := run_more p inp (s := steps) (s' := more) (by omega)
      have hr2 : reach_s p inp target more = (idxi_s (run_s p inp steps).1 target, true) := by
        unfold reach_s
        rw [e2, he, e3, idxi_app _ _ _ hi', Int.max_eq_left hi', decide_eq_true hi]; rfl
      rw [hr2, cond_true, beq_self_eq_true]
    · rw [decide_eq_false hi, Int.max_eq_right (by omega)]
      simp only [Bool.not_false, cond_true, beq_self_eq_true]
      exact decide_eq_true (by omega)
  · have hr : reach_s p inp target steps = (0, false) := by
      unfold reach_s
      have : ((run_s p inp steps).2.2.2.2 != (0 : Int)) = true := by simpa [bne] using he
      rw [this]; rfl
    rw [hr, run_err p inp steps he]
    rfl
theorem lRea_law (p : Img) (inp : List Int) (target steps more : Int) (hI : ImmOk p) : Ok Try.prog 3 [.agg [.v (.int .i64 p.mem), .v (.int .i64 p.stack), .v (.int .i64 p.input), .ro 1 p.data.length ((p.data).map eb), .ro 1 p.funs.length ((p.funs).map ei), .ro 5 p.code.length ((p.code).map eIns)], .ro 1 inp.length ((inp).map eb), .v (.int .i64 target), .v (.int .i64 steps), .v (.int .i64 more)] (look []) (.v (.bool true)) (postOf [] []) := by
  have := lRea_ok p inp target steps more hI
  rwa [lRea_true] at this
end Go.Proofs.Yteolbecihipcaaa.Sx.M5
