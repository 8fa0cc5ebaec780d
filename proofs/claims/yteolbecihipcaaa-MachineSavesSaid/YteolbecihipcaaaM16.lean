/- The law MachineSaves, plain: the run of its program. -/
import Derived.Test.YteolbecihipcaaaM15
open Go Go.Proofs Go.RowKit
namespace Go.Proofs.Yteolbecihipcaaa.Sx.M5
set_option linter.unusedVariables false
set_option linter.unusedSimpArgs false
section
variable {x at_ w : Int} {data : List Int}
theorem put_l0_zero (i : Ins) : ∀ (m : Nat) (a : Int) (out : List Int), (a + 8).toNat < m → (put_l0 i m a out).2 = 0 := by
  intro m
  induction m with
  | zero => intro a out hm; exact absurd hm (Nat.not_lt_zero _)
  | succ m ih =>
    intro a out hm
    rw [put_l0]
    refine bifP (P := fun r : List Int × Int => r.2 = 0) (fun h => ?_) (fun _ => rfl)
    have h := of_decide_eq_true h
    exact ih _ _ (by omega)
theorem put_ok0 {i : Ins} (h : 0 ≤ i.op ∧ i.op < 26) (hw : W i = 0) : (put_s i).2 = 0 := by
  unfold put_s
  rw [show known_s i.op = true by rw [known_iff]; exact decide_eq_true h, wrong_eq h.1 h.2, hw]
  exact put_l0_zero i _ _ _ (Nat.lt_succ_self _)
theorem enc_l1_0 {p : Img} (h : ∀ j, j < p.code.length → (put_s (p.code.getD j default)).2 = 0) (hs : stray_s p < 0) : ∀ (m i : Nat) (out : List Int), p.code.length - i < m → (encode_l1 p m i out).2 = 0 := by
  intro m
  induction m with
  | zero => intro i out hm; exact absurd hm (Nat.not_lt_zero _)
  | succ m ih =>
    intro i out hm
    rw [encode_l1]
    refine bifP (P := fun r : List Int × Int => r.2 = 0) (fun h1 => ?_) (fun _ => ?_)
    · have h1 := of_decide_eq_true h1
      rw [Int.toNat_natCast, h i (by omega)]
      exact ih (i + 1) _ (by omega)
    · rw [decide_eq_false (by omega)]; rfl
theorem enc_l0_0 {p : Img} (h : ∀ j, j < p.code.length → (put_s (p.code.getD j default)).2 = 0) (hs : stray_s p < 0) : ∀ (m i : Nat) (out : List Int), p.funs.length - i < m → (encode_l0 p m i out).2 = 0 := by
  intro m
  induction m with
  | zero => intro i out hm; exact absurd hm (Nat.not_lt_zero _)
  | succ m ih =>
    intro i out hm
    rw [encode_l0]
    refine bifP (P := fun r : List Int × Int => r.2 = 0) (fun h1 => ?_) (fun _ => ?_)
    · have h1 := of_decide_eq_true h1
      exact ih (i + 1) _ (by omega)
    · exact enc_l1_0 h hs _ 0 _ (Nat.lt_succ_self _)
theorem enc_0 {p : Img} (hz : sizes_s p = true) (h : ∀ j, j < p.code.length → (put_s (p.code.getD j default)).2 = 0) (hs : stray_s p < 0) : (encode_s p).2 = 0 := by
  unfold encode_s
  rw [hz]
  exact enc_l0_0 h hs _ 0 _ (Nat.lt_succ_self _)
theorem sav_sizes (hd : data.length ≤ 64) : sizes_s (savP x at_ w data) = true := by
  have h1 : within_s (savP x at_ w data).mem 0 64 = true := by
    show within_s (data.length : Int) 0 64 = true
    unfold within_s
    rw [decide_eq_true (by omega)]
    exact decide_eq_true (by omega)
  have h2 : within_s (savP x at_ w data).stack 0 16 = true := by show within_s 0 0 16 = true; decide
  have h3 : within_s (savP x at_ w data).input 0 16 = true := by show within_s 0 0 16 = true; decide
  have h4 : decide (((savP x at_ w data).data.length : Int) > (savP x at_ w data).mem) = false := decide_eq_false (by show ¬ (data.length : Int) > (data.length : Int); omega)
  have h5 : within_s ((savP x at_ w data).funs.length : Int) 1 16 = true := by show within_s 1 1 16 = true; decide
  have h6 : ((savP x at_ w data).funs.getD 0 0 != (0 : Int)) = false := rfl
  have h7 : sizes_l0 (savP x at_ w data) (((savP x at_ w data).funs.drop 1).length - ((0) : Int).toNat + 1) 0 = true := by kernel_rfl
  unfold sizes_s
  rw [h1, h2, h4, h5, h6, h7]; rfl
theorem sav_stray : stray_s (savP x at_ w data) = -1 := by kernel_rfl
theorem sav_put (hw : w = 1 ∨ w = 2 ∨ w = 4 ∨ w = 8) : ∀ j, j < (savP x at_ w data).code.length → (put_s ((savP x at_ w data).code.getD j default)).2 = 0 := by
  intro j hj
  match j with
  | 0 => exact put_ok0 (i := ⟨1, 1, 0, 0, x⟩) (show (0 : Int) ≤ 1 ∧ (1 : Int) < 26 by decide) (by kernel_rfl)
  | 1 => exact put_ok0 (i := ⟨1, 2, 0, 0, at_⟩) (show (0 : Int) ≤ 1 ∧ (1 : Int) < 26 by decide) (by kernel_rfl)
  | 2 =>
    rcases hw with rfl | rfl | rfl | rfl
    · exact put_ok0 (i := ⟨18, 1, 2, 1, 0⟩) (show (0 : Int) ≤ 18 ∧ (18 : Int) < 26 by decide) (by kernel_rfl)
    · exact put_ok0 (i := ⟨18, 1, 2, 2, 0⟩) (show (0 : Int) ≤ 18 ∧ (18 : Int) < 26 by decide) (by kernel_rfl)
    · exact put_ok0 (i := ⟨18, 1, 2, 4, 0⟩) (show (0 : Int) ≤ 18 ∧ (18 : Int) < 26 by decide) (by kernel_rfl)
    · exact put_ok0 (i := ⟨18, 1, 2, 8, 0⟩) (show (0 : Int) ≤ 18 ∧ (18 : Int) < 26 by decide) (by kernel_rfl)
  | 3 =>
    rcases hw with rfl | rfl | rfl | rfl
    · exact put_ok0 (i := ⟨17, 3, 2, 1, 0⟩) (show (0 : Int) ≤ 17 ∧ (17 : Int) < 26 by decide) (by kernel_rfl)
    · exact put_ok0 (i := ⟨17, 3, 2, 2, 0⟩) (show (0 : Int) ≤ 17 ∧ (17 : Int) < 26 by decide) (by kernel_rfl)
    · exact put_ok0 (i := ⟨17, 3, 2, 4, 0⟩) (show (0 : Int) ≤ 17 ∧ (17 : Int) < 26 by decide) (by kernel_rfl)
    · exact put_ok0 (i := ⟨17, 3, 2, 8, 0⟩) (show (0 : Int) ≤ 17 ∧ (17 : Int) < 26 by decide) (by kernel_rfl)
  | 4 => exact put_ok0 (i := ⟨0, 0, 0, 0, 0⟩) (show (0 : Int) ≤ 0 ∧ (0 : Int) < 26 by decide) (by kernel_rfl)
  | j + 5 => exact absurd (show j + 5 < 5 from hj) (by omega)
theorem sav_enc (hw : w = 1 ∨ w = 2 ∨ w = 4 ∨ w = 8) (hd : data.length ≤ 64) : (encode_s (savP x at_ w data)).2 = 0 := enc_0 (sav_sizes hd) (sav_put hw) (by rw [sav_stray]; decide)
theorem sav_start (hd : data.length ≤ 64) : start_s (savP x at_ w data) = ((fun _ => 0), data) := by
  unfold start_s
  have e : (max 0 (min (data.length : Int) 64)).toNat = data.length := by omega
  rw [e, List.length_replicate, List.take_length, List.drop_eq_nil_of_le (by simp), List.append_nil]
theorem run_s_ok {p : Img} {inp : List Int} {s : Int} (h1 : (encode_s p).2 = 0) (h2 : ¬ (inp.length : Int) > p.input) : run_s p inp s = run_l0 p inp s ((lim s - 0).toNat + 1) 0 0 (start_s p).1 (start_s p).2 [] 0 [0] := by
  unfold run_s
  rw [h1, decide_eq_false h2]; rfl
theorem sav_run (hw : w = 1 ∨ w = 2 ∨ w = 4 ∨ w = 8) (hd : data.length ≤ 64) : run_s (savP x at_ w data) [] 10 = run_l0 (savP x at_ w data) [] 10 11 0 0 (fun _ => 0) data [] 0 [0] := by
  have e : (lim 10 - 0).toNat + 1 = 11 := by decide
  have h2 : ¬ (([] : List Int).length : Int) > (savP x at_ w data).input := by show ¬ (0 : Int) > 0; decide
  have h := run_s_ok (inp := []) (s := 10) (sav_enc (x := x) (at_ := at_) hw hd) h2
  rw [sav_start hd, e] at h
  exact h
theorem run_go {p : Img} {inp : List Int} {s : Int} {m : Nat} {k pl en : Int} {r : Nat → Int} {ms os path : List Int} {pl' : Int} {r' : Nat → Int} {ms' os' : List Int} (hk : k < lim s) (h1 : one_s p inp pl r ms os = (0, pl', r', ms', os')) :
    run_l0 p inp s (m + 1) k pl r ms os en path = run_l0 p inp s m (k + 1) pl' r' ms' os' 0 (path ++ [pl']) := by
  rw [run_l0, decide_eq_true hk, h1]; rfl
theorem run_stop {p : Img} {inp : List Int} {s : Int} {m : Nat} {k pl en e : Int} {r : Nat → Int} {ms os path : List Int} {pl' : Int} {r' : Nat → Int} {ms' os' : List Int} (hk : k < lim s) (h1 : one_s p inp pl r ms os = (e, pl', r', ms', os')) (he : e ≠ 0) :
    run_l0 p inp s (m + 1) k pl r ms os en path = (path, e, r', ms', 0) := by
  rw [run_l0, decide_eq_true hk, h1]
  simp only [cond_true]
  rw [show (e != 0) = true by simpa [bne] using he]; rfl
theorem sav0 (r : Nat → Int) (ms os : List Int) : one_s (savP x at_ w data) [] 0 r ms os = (0, 1, upd r 1 x, ms, os) := by kernel_rfl
theorem sav1 (r : Nat → Int) (ms os : List Int) : one_s (savP x at_ w data) [] 1 r ms os = (0, 2, upd r 2 at_, ms, os) := by kernel_rfl
theorem sav2 (r : Nat → Int) (ms os : List Int) : one_s (savP x at_ w data) [] 2 r ms os = d_save_s (savP x at_ w data) [] 2 r ms os ⟨18, 1, 2, w, 0⟩ := by kernel_rfl
theorem sav3 (r : Nat → Int) (ms os : List Int) : one_s (savP x at_ w data) [] 3 r ms os = d_load_s (savP x at_ w data) [] 3 r ms os ⟨17, 3, 2, w, 0⟩ := by kernel_rfl
theorem sav4 (r : Nat → Int) (ms os : List Int) : one_s (savP x at_ w data) [] 4 r ms os = (1, 4, r, ms, os) := by kernel_rfl
def savR (x at_ : Int) : Nat → Int := upd (upd (fun _ => 0) 1 x) 2 at_
theorem sav_two (hw : w = 1 ∨ w = 2 ∨ w = 4 ∨ w = 8) (hd : data.length ≤ 64) : run_s (savP x at_ w data) [] 10 = run_l0 (savP x at_ w data) [] 10 9 2 2 (savR x at_) data [] 0 [0, 1, 2] := by
  rw [sav_run hw hd, run_go (by decide) (sav0 _ _ _), run_go (by decide) (sav1 _ _ _)]; rfl
theorem sav_bad (ha : 0 ≤ at_ ∧ at_ < 18446744073709551616) (hw : w = 1 ∨ w = 2 ∨ w = 4 ∨ w = 8) (hd : data.length ≤ 64) (hb : (data.length : Int) < w ∨ at_ > IntKind.u64.wrap ((data.length : Int) - w)) :
    run_s (savP x at_ w data) [] 10 = ([0, 1, 2], 2, savR x at_, data, 0) := by
  rw [sav_two hw hd]
  refine run_stop (by decide) (e := 2) (pl' := 2) (os' := []) ?_ (by decide)
  rw [sav2]
  unfold d_save_s
  obtain ⟨n, rfl⟩ : ∃ n : Nat, w = (n : Int) := ⟨w.toNat, by omega⟩
  rw [eachS_bad (n := n) (A := at_) rfl (by omega) hd (by show IntKind.u64.wrap (at_ + 0) = at_; rw [wrap_u64]; omega) hb]
  rfl
theorem sav_good (hx : 0 ≤ x ∧ x < 18446744073709551616) (ha : 0 ≤ at_ ∧ at_ < 18446744073709551616) (hw : w = 1 ∨ w = 2 ∨ w = 4 ∨ w = 8) (hd : data.length ≤ 64) (h1 : ¬ (data.length : Int) < w) (h2 : ¬ at_ > IntKind.u64.wrap ((data.length : Int) - w)) :
    ∃ path r ms, run_s (savP x at_ w data) [] 10 = (path, 1, r, ms, 0) ∧ r 3 = x % 2 ^ (8 * w.toNat) ∧ Put data ms at_.toNat w.toNat x w.toNat ∧ at_.toNat + w.toNat ≤ data.length := by
  obtain ⟨n, rfl⟩ : ∃ n : Nat, w = (n : Int) := ⟨w.toNat, by omega⟩
  obtain ⟨A, rfl⟩ : ∃ A : Nat, at_ = (A : Int) := ⟨at_.toNat, by omega⟩
  have hA : IntKind.u64.wrap ((A : Int) + 0) = (A : Int) := by rw [wrap_u64]; omega
  rw [wrap_u64] at h2
  have hfit : A + n ≤ data.length := by omega
  obtain ⟨ms, e1, hp⟩ := eachS_good (p := savP x A n data) (inp := []) (pl := 2) (regs := savR x A) (mem := data) (os := []) (i := ⟨18, 1, 2, n, 0⟩) (x := savR x A 1) (show 0 ≤ x from hx.1) (n := n) (A := A) rfl (by omega) hd hA hfit
  have e2 := eachL_good (p := savP x A n data) (inp := []) (pl := 3) (regs := savR x A) (mem0 := data) (mem := ms) (os := []) (i := ⟨17, 3, 2, n, 0⟩) (x := x) hx.1 (n := n) (A := A) rfl (by omega) (by rw [hp.len]; exact hd) hA (by rw [hp.len]; exact hfit) hp
  refine ⟨[0, 1, 2, 3, 4], upd (savR x A) 3 (x % 2 ^ (8 * n)), ms, ?_, rfl, hp, hfit⟩
  rw [sav_two hw hd]
  rw [run_go (pl' := 3) (r' := savR x A) (ms' := ms) (os' := []) (by decide) (by rw [sav2]; unfold d_save_s; rw [show savR x A ((1 : Int).toNat) = savR x A 1 from rfl, e1]; rfl)]
  rw [run_go (pl' := 4) (r' := upd (savR x A) 3 (x % 2 ^ (8 * n))) (ms' := ms) (os' := []) (by decide) (by rw [sav3]; unfold d_load_s; rw [e2]; rfl)]
  exact run_stop (by decide) (sav4 _ _ _) (by decide)
end
theorem lSav_c7_true {x at_ wide wd : Int} {data : List Int} (hx : 0 ≤ x ∧ x < 18446744073709551616) (ha : 0 ≤ at_ ∧ at_ < 18446744073709551616) (hw : wd = 1 ∨ wd = 2 ∨ wd = 4 ∨ wd = 8) (hd : data.length ≤ 64) :
    lSav_c7 x at_ data wide wd ([0] : List Int) ([(⟨1, 1, 0, 0, x⟩ : Ins), (⟨1, 2, 0, 0, at_⟩ : Ins), (⟨18, 1, 2, wd, 0⟩ : Ins), (⟨17, 3, 2, wd, 0⟩ : Ins), (⟨0, 0, 0, 0, 0⟩ : Ins)] : List Ins) = true := by
  unfold lSav_c7
  by_cases h1 : (data.length : Int) < wd
  · rw [sav_bad ha hw hd (.inl h1), decide_eq_true h1]
    simp
  · by_cases h2 : at_ > IntKind.u64.wrap ((data.length : Int) - wd)
    · rw [sav_bad ha hw hd (.inr h2), decide_eq_false h1, decide_eq_true h2]
      simp
    · obtain ⟨path, r, ms, e, h3, h4, h5⟩ := sav_good hx ha hw hd h1 h2
      rw [e, decide_eq_false h1, decide_eq_false h2]
      simp only [cond_false, bne_self_eq_false]
      have t1 := h4.take
      have t2 := h4.drop
      have e1 : (at_ + wd).toNat = at_.toNat + wd.toNat := by omega
      rw [h3, h4.len, List.drop_zero, List.drop_zero, t1, e1, t2]
      simp only [beq_self_eq_true, cond_true]
      refine bifP (P := fun r : Bool => r = true) (fun h8 => ?_) fun h8 => ?_
      · have h8 := of_decide_eq_true h8
        have : (x % 2 ^ (8 * wd.toNat) == x.tmod (IntKind.u64.wrap (1 * 2 ^ min ((8 * wd).toNat) 64))) = true := by
          rw [beq_iff_eq, Int.tmod_eq_emod_of_nonneg hx.1]
          rcases hw with rfl | rfl | rfl | rfl
          · rfl
          · rfl
          · rfl
          · omega
        rw [this]; rfl
      · have h8 := of_decide_eq_false h8
        obtain rfl : wd = 8 := by omega
        have : (x % 2 ^ (8 * (8 : Int).toNat) == x) = true := by
          rw [beq_iff_eq]
          show x % 18446744073709551616 = x
          omega
        rw [this]; rfl
theorem lSav_true {x at_ wide : Int} {data : List Int} (hx : 0 ≤ x ∧ x < 18446744073709551616) (ha : 0 ≤ at_ ∧ at_ < 18446744073709551616) (hw : 0 ≤ wide ∧ wide ≤ 255) : lSav_s x at_ data wide = true := by
  unfold lSav_s lSav_c4
  refine bifP (P := fun r : Bool => r = true) (fun _ => rfl) fun h => ?_
  have h := of_decide_eq_false h
  exact lSav_c7_true hx ha (wd_of hw.1) (by omega)
theorem lSavL_true (x at_ : Int) (data : List Int) (wide : Int) (hx : 0 ≤ x ∧ x < 18446744073709551616) (ha : 0 ≤ at_ ∧ at_ < 18446744073709551616) (b2 : Bytes data) (hw : 0 ≤ wide ∧ wide ≤ 255) :
    Ok Try.prog 4 [.v (.int .u64 x), .v (.int .u64 at_), .ro 1 data.length ((data).map eb), .v (.int .u8 wide)] (look []) (.v (.bool true)) (postOf [] []) := by
  have := lSav_ok x at_ data wide hx ha hw
  rwa [lSav_true hx ha hw] at this
end Go.Proofs.Yteolbecihipcaaa.Sx.M5
