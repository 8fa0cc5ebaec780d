-- PRINTED BY print.sh 35421559b90ae4d0a3588c463048766b98c2df88dd9212a6774a882060cdf62d: not written by this session
import Derived.Test.YtmgfmabmliphfaaPCodeNamesx0
namespace Go.Proofs.Ytmgfmabmliphfaa.PCodeNames
open Go.RowKit Go.Proofs.YtmgfmabmliphfaaW.PrintWords Go.Proofs.YtmgfmabmliphfaaW.PrintLast Go.Proofs.YtmgfmabmliphfaaW.PrintMore
attribute [local go_sem] max2_int min2_int max_two min_two max_three min_three max_four min_four   -- for this text's walks alone
set_option linter.unusedVariables false
set_option linter.unusedSimpArgs false

/-! ### code_forms: function 18 -/
def code_forms.f  : Option ((List (S47))) := some (([(⟨(⟨#[104, 97, 108, 116]⟩ : ByteArray), 0⟩ : S47), (⟨(⟨#[115, 101, 116]⟩ : ByteArray), 17⟩ : S47), (⟨(⟨#[99, 111, 112, 121]⟩ : ByteArray), 3⟩ : S47), (⟨(⟨#[97, 100, 100]⟩ : ByteArray), 7⟩ : S47), (⟨(⟨#[115, 117, 98]⟩ : ByteArray), 7⟩ : S47), (⟨(⟨#[109, 117, 108]⟩ : ByteArray), 7⟩ : S47), (⟨(⟨#[100, 105, 118]⟩ : ByteArray), 7⟩ : S47), (⟨(⟨#[114, 101, 109]⟩ : ByteArray), 7⟩ : S47), (⟨(⟨#[97, 110, 100]⟩ : ByteArray), 7⟩ : S47), (⟨(⟨#[111, 114]⟩ : ByteArray), 7⟩ : S47), (⟨(⟨#[120, 111, 114]⟩ : ByteArray), 7⟩ : S47), (⟨(⟨#[115, 104, 108]⟩ : ByteArray), 7⟩ : S47), (⟨(⟨#[115, 104, 114]⟩ : ByteArray), 7⟩ : S47), (⟨(⟨#[115, 97, 114]⟩ : ByteArray), 7⟩ : S47), (⟨(⟨#[115, 97, 109, 101]⟩ : ByteArray), 7⟩ : S47), (⟨(⟨#[108, 101, 115, 115]⟩ : ByteArray), 7⟩ : S47), (⟨(⟨#[98, 101, 108, 111, 119]⟩ : ByteArray), 7⟩ : S47), (⟨(⟨#[108, 111, 97, 100]⟩ : ByteArray), 27⟩ : S47), (⟨(⟨#[115, 97, 118, 101]⟩ : ByteArray), 27⟩ : S47), (⟨(⟨#[105, 110, 112, 117, 116]⟩ : ByteArray), 19⟩ : S47), (⟨(⟨#[108, 101, 110, 103, 116, 104]⟩ : ByteArray), 1⟩ : S47), (⟨(⟨#[106, 117, 109, 112]⟩ : ByteArray), 16⟩ : S47), (⟨(⟨#[98, 114, 97, 110, 99, 104]⟩ : ByteArray), 17⟩ : S47), (⟨(⟨#[99, 97, 108, 108]⟩ : ByteArray), 16⟩ : S47), (⟨(⟨#[98, 97, 99, 107]⟩ : ByteArray), 0⟩ : S47), (⟨(⟨#[102, 97, 105, 108]⟩ : ByteArray), 0⟩ : S47)] : List (S47)))
set_option maxHeartbeats 8000000 in
set_option maxRecDepth 100000 in
theorem code_forms.calls  (r : List (S47)) (w : World) (h : code_forms.f  = some r) :
    Calls Try.prog 18 #[] w fun e w' => ∃ v0_ : Value, e = .returned (v0_) ∧ Kd.R k47 47 w' w.heap.size (fun _ => True) v0_ r ∧ Below w.heap.size w w' := by
  have hu47 := Try.underlying47
  have HB := Aside0.mk (Below.refl w.heap.size w)
  have H : (some (([(⟨(⟨#[104, 97, 108, 116]⟩ : ByteArray), 0⟩ : S47), (⟨(⟨#[115, 101, 116]⟩ : ByteArray), 17⟩ : S47), (⟨(⟨#[99, 111, 112, 121]⟩ : ByteArray), 3⟩ : S47), (⟨(⟨#[97, 100, 100]⟩ : ByteArray), 7⟩ : S47), (⟨(⟨#[115, 117, 98]⟩ : ByteArray), 7⟩ : S47), (⟨(⟨#[109, 117, 108]⟩ : ByteArray), 7⟩ : S47), (⟨(⟨#[100, 105, 118]⟩ : ByteArray), 7⟩ : S47), (⟨(⟨#[114, 101, 109]⟩ : ByteArray), 7⟩ : S47), (⟨(⟨#[97, 110, 100]⟩ : ByteArray), 7⟩ : S47), (⟨(⟨#[111, 114]⟩ : ByteArray), 7⟩ : S47), (⟨(⟨#[120, 111, 114]⟩ : ByteArray), 7⟩ : S47), (⟨(⟨#[115, 104, 108]⟩ : ByteArray), 7⟩ : S47), (⟨(⟨#[115, 104, 114]⟩ : ByteArray), 7⟩ : S47), (⟨(⟨#[115, 97, 114]⟩ : ByteArray), 7⟩ : S47), (⟨(⟨#[115, 97, 109, 101]⟩ : ByteArray), 7⟩ : S47), (⟨(⟨#[108, 101, 115, 115]⟩ : ByteArray), 7⟩ : S47), (⟨(⟨#[98, 101, 108, 111, 119]⟩ : ByteArray), 7⟩ : S47), (⟨(⟨#[108, 111, 97, 100]⟩ : ByteArray), 27⟩ : S47), (⟨(⟨#[115, 97, 118, 101]⟩ : ByteArray), 27⟩ : S47), (⟨(⟨#[105, 110, 112, 117, 116]⟩ : ByteArray), 19⟩ : S47), (⟨(⟨#[108, 101, 110, 103, 116, 104]⟩ : ByteArray), 1⟩ : S47), (⟨(⟨#[106, 117, 109, 112]⟩ : ByteArray), 16⟩ : S47), (⟨(⟨#[98, 114, 97, 110, 99, 104]⟩ : ByteArray), 17⟩ : S47), (⟨(⟨#[99, 97, 108, 108]⟩ : ByteArray), 16⟩ : S47), (⟨(⟨#[98, 97, 99, 107]⟩ : ByteArray), 0⟩ : S47), (⟨(⟨#[102, 97, 105, 108]⟩ : ByteArray), 0⟩ : S47)] : List (S47)))) = some r := h
  clear h
  obtain ⟨y101, hy101⟩ : ∃ y_ : List (S47), y_ = (([(⟨(⟨#[104, 97, 108, 116]⟩ : ByteArray), 0⟩ : S47), (⟨(⟨#[115, 101, 116]⟩ : ByteArray), 17⟩ : S47), (⟨(⟨#[99, 111, 112, 121]⟩ : ByteArray), 3⟩ : S47), (⟨(⟨#[97, 100, 100]⟩ : ByteArray), 7⟩ : S47), (⟨(⟨#[115, 117, 98]⟩ : ByteArray), 7⟩ : S47), (⟨(⟨#[109, 117, 108]⟩ : ByteArray), 7⟩ : S47), (⟨(⟨#[100, 105, 118]⟩ : ByteArray), 7⟩ : S47), (⟨(⟨#[114, 101, 109]⟩ : ByteArray), 7⟩ : S47), (⟨(⟨#[97, 110, 100]⟩ : ByteArray), 7⟩ : S47), (⟨(⟨#[111, 114]⟩ : ByteArray), 7⟩ : S47), (⟨(⟨#[120, 111, 114]⟩ : ByteArray), 7⟩ : S47), (⟨(⟨#[115, 104, 108]⟩ : ByteArray), 7⟩ : S47), (⟨(⟨#[115, 104, 114]⟩ : ByteArray), 7⟩ : S47), (⟨(⟨#[115, 97, 114]⟩ : ByteArray), 7⟩ : S47), (⟨(⟨#[115, 97, 109, 101]⟩ : ByteArray), 7⟩ : S47), (⟨(⟨#[108, 101, 115, 115]⟩ : ByteArray), 7⟩ : S47), (⟨(⟨#[98, 101, 108, 111, 119]⟩ : ByteArray), 7⟩ : S47), (⟨(⟨#[108, 111, 97, 100]⟩ : ByteArray), 27⟩ : S47), (⟨(⟨#[115, 97, 118, 101]⟩ : ByteArray), 27⟩ : S47), (⟨(⟨#[105, 110, 112, 117, 116]⟩ : ByteArray), 19⟩ : S47), (⟨(⟨#[108, 101, 110, 103, 116, 104]⟩ : ByteArray), 1⟩ : S47), (⟨(⟨#[106, 117, 109, 112]⟩ : ByteArray), 16⟩ : S47), (⟨(⟨#[98, 114, 97, 110, 99, 104]⟩ : ByteArray), 17⟩ : S47), (⟨(⟨#[99, 97, 108, 108]⟩ : ByteArray), 16⟩ : S47), (⟨(⟨#[98, 97, 99, 107]⟩ : ByteArray), 0⟩ : S47), (⟨(⟨#[102, 97, 105, 108]⟩ : ByteArray), 0⟩ : S47)] : List (S47))) := ⟨_, rfl⟩
  replace H : (some y101) = some r := by first | (rw [hy101]; with_reducible exact H) | (have H2_ := (Option.bind_some _ _).symm.trans H; rw [hy101]; with_reducible exact H2_) | (have H2_ := (Option.bind_some _ _).symm.trans H; with_reducible exact H2_) | with_reducible exact H | (rw [hy101]; exact H) | exact H
  have Ny101 := Aside0.mk hy101
  clear hy101
  obtain rfl := Option.some.inj H
  go_enter Try.func18, Try.ntmps18
  go_wp2_with (first | ((with_reducible refine gate_dst (N := 27) rfl ?_); refine Kd.R_lit k47 _ 47 ?hg (N := 27) ?hd (xs := ([(⟨(⟨#[104, 97, 108, 116]⟩ : ByteArray), 0⟩ : S47), (⟨(⟨#[115, 101, 116]⟩ : ByteArray), 17⟩ : S47), (⟨(⟨#[99, 111, 112, 121]⟩ : ByteArray), 3⟩ : S47), (⟨(⟨#[97, 100, 100]⟩ : ByteArray), 7⟩ : S47), (⟨(⟨#[115, 117, 98]⟩ : ByteArray), 7⟩ : S47), (⟨(⟨#[109, 117, 108]⟩ : ByteArray), 7⟩ : S47), (⟨(⟨#[100, 105, 118]⟩ : ByteArray), 7⟩ : S47), (⟨(⟨#[114, 101, 109]⟩ : ByteArray), 7⟩ : S47), (⟨(⟨#[97, 110, 100]⟩ : ByteArray), 7⟩ : S47), (⟨(⟨#[111, 114]⟩ : ByteArray), 7⟩ : S47), (⟨(⟨#[120, 111, 114]⟩ : ByteArray), 7⟩ : S47), (⟨(⟨#[115, 104, 108]⟩ : ByteArray), 7⟩ : S47), (⟨(⟨#[115, 104, 114]⟩ : ByteArray), 7⟩ : S47), (⟨(⟨#[115, 97, 114]⟩ : ByteArray), 7⟩ : S47), (⟨(⟨#[115, 97, 109, 101]⟩ : ByteArray), 7⟩ : S47), (⟨(⟨#[108, 101, 115, 115]⟩ : ByteArray), 7⟩ : S47), (⟨(⟨#[98, 101, 108, 111, 119]⟩ : ByteArray), 7⟩ : S47), (⟨(⟨#[108, 111, 97, 100]⟩ : ByteArray), 27⟩ : S47), (⟨(⟨#[115, 97, 118, 101]⟩ : ByteArray), 27⟩ : S47), (⟨(⟨#[105, 110, 112, 117, 116]⟩ : ByteArray), 19⟩ : S47), (⟨(⟨#[108, 101, 110, 103, 116, 104]⟩ : ByteArray), 1⟩ : S47), (⟨(⟨#[106, 117, 109, 112]⟩ : ByteArray), 16⟩ : S47), (⟨(⟨#[98, 114, 97, 110, 99, 104]⟩ : ByteArray), 17⟩ : S47), (⟨(⟨#[99, 97, 108, 108]⟩ : ByteArray), 16⟩ : S47), (⟨(⟨#[98, 97, 99, 107]⟩ : ByteArray), 0⟩ : S47), (⟨(⟨#[102, 97, 105, 108]⟩ : ByteArray), 0⟩ : S47)] : List (S47))) (inner := [.string (⟨#[104, 97, 108, 116]⟩ : ByteArray), .int .i64 0, .string (⟨#[115, 101, 116]⟩ : ByteArray), .int .i64 17, .string (⟨#[99, 111, 112, 121]⟩ : ByteArray), .int .i64 3, .string (⟨#[97, 100, 100]⟩ : ByteArray), .int .i64 7, .string (⟨#[115, 117, 98]⟩ : ByteArray), .int .i64 7, .string (⟨#[109, 117, 108]⟩ : ByteArray), .int .i64 7, .string (⟨#[100, 105, 118]⟩ : ByteArray), .int .i64 7, .string (⟨#[114, 101, 109]⟩ : ByteArray), .int .i64 7, .string (⟨#[97, 110, 100]⟩ : ByteArray), .int .i64 7, .string (⟨#[111, 114]⟩ : ByteArray), .int .i64 7, .string (⟨#[120, 111, 114]⟩ : ByteArray), .int .i64 7, .string (⟨#[115, 104, 108]⟩ : ByteArray), .int .i64 7, .string (⟨#[115, 104, 114]⟩ : ByteArray), .int .i64 7, .string (⟨#[115, 97, 114]⟩ : ByteArray), .int .i64 7, .string (⟨#[115, 97, 109, 101]⟩ : ByteArray), .int .i64 7, .string (⟨#[108, 101, 115, 115]⟩ : ByteArray), .int .i64 7, .string (⟨#[98, 101, 108, 111, 119]⟩ : ByteArray), .int .i64 7, .string (⟨#[108, 111, 97, 100]⟩ : ByteArray), .int .i64 27, .string (⟨#[115, 97, 118, 101]⟩ : ByteArray), .int .i64 27, .string (⟨#[105, 110, 112, 117, 116]⟩ : ByteArray), .int .i64 19, .string (⟨#[108, 101, 110, 103, 116, 104]⟩ : ByteArray), .int .i64 1, .string (⟨#[106, 117, 109, 112]⟩ : ByteArray), .int .i64 16, .string (⟨#[98, 114, 97, 110, 99, 104]⟩ : ByteArray), .int .i64 17, .string (⟨#[99, 97, 108, 108]⟩ : ByteArray), .int .i64 16, .string (⟨#[98, 97, 99, 107]⟩ : ByteArray), .int .i64 0, .string (⟨#[102, 97, 105, 108]⟩ : ByteArray), .int .i64 0]) (ok := fun _ => True) (okp := fun _ => True) ?hr ?hp (fun _ hk => hk) trivial (Below.refl _ _) (Nat.le_refl _) (by simp) ?_; (case hd => rfl); (case hg => rfl); (case hr => first | (go_simp; done) | (go_simp; rfl)); (case hp => exact (Reps.c2 (show Kd.M k47 _ _ _ (⟨(⟨#[104, 97, 108, 116]⟩ : ByteArray), 0⟩ : S47) [.string (⟨#[104, 97, 108, 116]⟩ : ByteArray), .int .i64 0] from (k47_mkM _ _ _ (⟨(⟨#[104, 97, 108, 116]⟩ : ByteArray), 0⟩ : S47) )) (Reps.c2 (show Kd.M k47 _ _ _ (⟨(⟨#[115, 101, 116]⟩ : ByteArray), 17⟩ : S47) [.string (⟨#[115, 101, 116]⟩ : ByteArray), .int .i64 17] from (k47_mkM _ _ _ (⟨(⟨#[115, 101, 116]⟩ : ByteArray), 17⟩ : S47) )) (Reps.c2 (show Kd.M k47 _ _ _ (⟨(⟨#[99, 111, 112, 121]⟩ : ByteArray), 3⟩ : S47) [.string (⟨#[99, 111, 112, 121]⟩ : ByteArray), .int .i64 3] from (k47_mkM _ _ _ (⟨(⟨#[99, 111, 112, 121]⟩ : ByteArray), 3⟩ : S47) )) (Reps.c2 (show Kd.M k47 _ _ _ (⟨(⟨#[97, 100, 100]⟩ : ByteArray), 7⟩ : S47) [.string (⟨#[97, 100, 100]⟩ : ByteArray), .int .i64 7] from (k47_mkM _ _ _ (⟨(⟨#[97, 100, 100]⟩ : ByteArray), 7⟩ : S47) )) (Reps.c2 (show Kd.M k47 _ _ _ (⟨(⟨#[115, 117, 98]⟩ : ByteArray), 7⟩ : S47) [.string (⟨#[115, 117, 98]⟩ : ByteArray), .int .i64 7] from (k47_mkM _ _ _ (⟨(⟨#[115, 117, 98]⟩ : ByteArray), 7⟩ : S47) )) (Reps.c2 (show Kd.M k47 _ _ _ (⟨(⟨#[109, 117, 108]⟩ : ByteArray), 7⟩ : S47) [.string (⟨#[109, 117, 108]⟩ : ByteArray), .int .i64 7] from (k47_mkM _ _ _ (⟨(⟨#[109, 117, 108]⟩ : ByteArray), 7⟩ : S47) )) (Reps.c2 (show Kd.M k47 _ _ _ (⟨(⟨#[100, 105, 118]⟩ : ByteArray), 7⟩ : S47) [.string (⟨#[100, 105, 118]⟩ : ByteArray), .int .i64 7] from (k47_mkM _ _ _ (⟨(⟨#[100, 105, 118]⟩ : ByteArray), 7⟩ : S47) )) (Reps.c2 (show Kd.M k47 _ _ _ (⟨(⟨#[114, 101, 109]⟩ : ByteArray), 7⟩ : S47) [.string (⟨#[114, 101, 109]⟩ : ByteArray), .int .i64 7] from (k47_mkM _ _ _ (⟨(⟨#[114, 101, 109]⟩ : ByteArray), 7⟩ : S47) )) (Reps.c2 (show Kd.M k47 _ _ _ (⟨(⟨#[97, 110, 100]⟩ : ByteArray), 7⟩ : S47) [.string (⟨#[97, 110, 100]⟩ : ByteArray), .int .i64 7] from (k47_mkM _ _ _ (⟨(⟨#[97, 110, 100]⟩ : ByteArray), 7⟩ : S47) )) (Reps.c2 (show Kd.M k47 _ _ _ (⟨(⟨#[111, 114]⟩ : ByteArray), 7⟩ : S47) [.string (⟨#[111, 114]⟩ : ByteArray), .int .i64 7] from (k47_mkM _ _ _ (⟨(⟨#[111, 114]⟩ : ByteArray), 7⟩ : S47) )) (Reps.c2 (show Kd.M k47 _ _ _ (⟨(⟨#[120, 111, 114]⟩ : ByteArray), 7⟩ : S47) [.string (⟨#[120, 111, 114]⟩ : ByteArray), .int .i64 7] from (k47_mkM _ _ _ (⟨(⟨#[120, 111, 114]⟩ : ByteArray), 7⟩ : S47) )) (Reps.c2 (show Kd.M k47 _ _ _ (⟨(⟨#[115, 104, 108]⟩ : ByteArray), 7⟩ : S47) [.string (⟨#[115, 104, 108]⟩ : ByteArray), .int .i64 7] from (k47_mkM _ _ _ (⟨(⟨#[115, 104, 108]⟩ : ByteArray), 7⟩ : S47) )) (Reps.c2 (show Kd.M k47 _ _ _ (⟨(⟨#[115, 104, 114]⟩ : ByteArray), 7⟩ : S47) [.string (⟨#[115, 104, 114]⟩ : ByteArray), .int .i64 7] from (k47_mkM _ _ _ (⟨(⟨#[115, 104, 114]⟩ : ByteArray), 7⟩ : S47) )) (Reps.c2 (show Kd.M k47 _ _ _ (⟨(⟨#[115, 97, 114]⟩ : ByteArray), 7⟩ : S47) [.string (⟨#[115, 97, 114]⟩ : ByteArray), .int .i64 7] from (k47_mkM _ _ _ (⟨(⟨#[115, 97, 114]⟩ : ByteArray), 7⟩ : S47) )) (Reps.c2 (show Kd.M k47 _ _ _ (⟨(⟨#[115, 97, 109, 101]⟩ : ByteArray), 7⟩ : S47) [.string (⟨#[115, 97, 109, 101]⟩ : ByteArray), .int .i64 7] from (k47_mkM _ _ _ (⟨(⟨#[115, 97, 109, 101]⟩ : ByteArray), 7⟩ : S47) )) (Reps.c2 (show Kd.M k47 _ _ _ (⟨(⟨#[108, 101, 115, 115]⟩ : ByteArray), 7⟩ : S47) [.string (⟨#[108, 101, 115, 115]⟩ : ByteArray), .int .i64 7] from (k47_mkM _ _ _ (⟨(⟨#[108, 101, 115, 115]⟩ : ByteArray), 7⟩ : S47) )) (Reps.c2 (show Kd.M k47 _ _ _ (⟨(⟨#[98, 101, 108, 111, 119]⟩ : ByteArray), 7⟩ : S47) [.string (⟨#[98, 101, 108, 111, 119]⟩ : ByteArray), .int .i64 7] from (k47_mkM _ _ _ (⟨(⟨#[98, 101, 108, 111, 119]⟩ : ByteArray), 7⟩ : S47) )) (Reps.c2 (show Kd.M k47 _ _ _ (⟨(⟨#[108, 111, 97, 100]⟩ : ByteArray), 27⟩ : S47) [.string (⟨#[108, 111, 97, 100]⟩ : ByteArray), .int .i64 27] from (k47_mkM _ _ _ (⟨(⟨#[108, 111, 97, 100]⟩ : ByteArray), 27⟩ : S47) )) (Reps.c2 (show Kd.M k47 _ _ _ (⟨(⟨#[115, 97, 118, 101]⟩ : ByteArray), 27⟩ : S47) [.string (⟨#[115, 97, 118, 101]⟩ : ByteArray), .int .i64 27] from (k47_mkM _ _ _ (⟨(⟨#[115, 97, 118, 101]⟩ : ByteArray), 27⟩ : S47) )) (Reps.c2 (show Kd.M k47 _ _ _ (⟨(⟨#[105, 110, 112, 117, 116]⟩ : ByteArray), 19⟩ : S47) [.string (⟨#[105, 110, 112, 117, 116]⟩ : ByteArray), .int .i64 19] from (k47_mkM _ _ _ (⟨(⟨#[105, 110, 112, 117, 116]⟩ : ByteArray), 19⟩ : S47) )) (Reps.c2 (show Kd.M k47 _ _ _ (⟨(⟨#[108, 101, 110, 103, 116, 104]⟩ : ByteArray), 1⟩ : S47) [.string (⟨#[108, 101, 110, 103, 116, 104]⟩ : ByteArray), .int .i64 1] from (k47_mkM _ _ _ (⟨(⟨#[108, 101, 110, 103, 116, 104]⟩ : ByteArray), 1⟩ : S47) )) (Reps.c2 (show Kd.M k47 _ _ _ (⟨(⟨#[106, 117, 109, 112]⟩ : ByteArray), 16⟩ : S47) [.string (⟨#[106, 117, 109, 112]⟩ : ByteArray), .int .i64 16] from (k47_mkM _ _ _ (⟨(⟨#[106, 117, 109, 112]⟩ : ByteArray), 16⟩ : S47) )) (Reps.c2 (show Kd.M k47 _ _ _ (⟨(⟨#[98, 114, 97, 110, 99, 104]⟩ : ByteArray), 17⟩ : S47) [.string (⟨#[98, 114, 97, 110, 99, 104]⟩ : ByteArray), .int .i64 17] from (k47_mkM _ _ _ (⟨(⟨#[98, 114, 97, 110, 99, 104]⟩ : ByteArray), 17⟩ : S47) )) (Reps.c2 (show Kd.M k47 _ _ _ (⟨(⟨#[99, 97, 108, 108]⟩ : ByteArray), 16⟩ : S47) [.string (⟨#[99, 97, 108, 108]⟩ : ByteArray), .int .i64 16] from (k47_mkM _ _ _ (⟨(⟨#[99, 97, 108, 108]⟩ : ByteArray), 16⟩ : S47) )) (Reps.c2 (show Kd.M k47 _ _ _ (⟨(⟨#[98, 97, 99, 107]⟩ : ByteArray), 0⟩ : S47) [.string (⟨#[98, 97, 99, 107]⟩ : ByteArray), .int .i64 0] from (k47_mkM _ _ _ (⟨(⟨#[98, 97, 99, 107]⟩ : ByteArray), 0⟩ : S47) )) (Reps.c2 (show Kd.M k47 _ _ _ (⟨(⟨#[102, 97, 105, 108]⟩ : ByteArray), 0⟩ : S47) [.string (⟨#[102, 97, 105, 108]⟩ : ByteArray), .int .i64 0] from (k47_mkM _ _ _ (⟨(⟨#[102, 97, 105, 108]⟩ : ByteArray), 0⟩ : S47) )) (Reps.none _ _)))))))))))))))))))))))))))); intro v102 w1 ho2 hb hg_ hnew_; clear hg_ hnew_; (first | rw [← Ny101.out] at ho2 | (simp only [Int.reduceToNat] at ho2; rw [← Ny101.out] at ho2)); have n0_ := Aside0.mk (Kd.R_lower ho2 (below_size (by repeat (first | (with_reducible first | exact HB.out | apply below_alloc | apply pw_below_drewN | apply below_drew1) | exact HB.out)))); have n1_ := Aside0.mk (below_step (by repeat (first | (with_reducible first | exact HB.out | apply below_alloc | apply pw_below_drewN | apply below_drew1) | exact HB.out)) hb); clear HB; have HO103 := n0_; have HB := n1_; clear n0_ n1_; clear hb ho2))
  go_ret
  exact ⟨_, by first | rfl | (simp [errW_none, errW_some] <;> rfl) | (simp [*, errW_none, errW_some] <;> rfl), by (with_reducible repeat (first | apply Kd.R_alloc | apply Kd.R_drewN | apply Kd.R_drew)); exact HO103.out, by repeat (first | (with_reducible first | exact HB.out | apply below_alloc | apply pw_below_drewN | apply below_drew1) | exact HB.out)⟩

/-! ### code_Op: function 8 -/
def code_Op.l0 : Nat → ByteArray → List (S47) → Int → Int → Option (Int × Bool)
  | 0, _, _, _, _ => none
  | k + 1, x0, x6, x7, x8 => if x8 < x7 then (if 0 ≤ x8 then (if x8 < (x6.length : Int) then (if ((rd_T47 x6 x8).f0).toList = x0.toList then (some (x8, true)) else (code_Op.l0 k x0 x6 x7 (wrap64 (x8 + 1)))) else (none)) else (none)) else (some (0, false))
def code_Op.f (k : Nat) (a0 : ByteArray) : Option (Int × Bool) := (code_forms.f).bind fun t104 => (code_Op.l0 k a0 t104 (t104.length : Int) 0)
theorem code_Op.mono_l : ∀ k, (∀ y0 y1 y2 y3, LeO (code_Op.l0 k y0 y1 y2 y3) (code_Op.l0 (k + 1) y0 y1 y2 y3))
  | 0 => fun _ _ _ _ r h => by simp [code_Op.l0] at h
  | k + 1 => by
    have ih0 := code_Op.mono_l k
    · intro y0 y1 y2 y3
      unfold code_Op.l0
      repeat' first
      | (with_reducible exact ih0 _ _ _ _)
      | (with_reducible exact LeO.refl _)
      | (with_reducible exact LeO.none _)
      | (with_reducible refine LeO.ite ?_ ?_)
      | (with_reducible refine LeO.bind ?_ (fun _ => ?_))
      | exact ih0 _ _ _ _
      | exact LeO.none _
      | refine LeO.ite ?_ ?_
      | refine LeO.bind ?_ (fun _ => ?_)
theorem code_Op.mono : ∀ a0 k, LeO (code_Op.f k a0) (code_Op.f (k + 1) a0) := by
  intro a0 k
  have ih0 := code_Op.mono_l k
  unfold code_Op.f
  repeat' first
      | (with_reducible exact ih0 _ _ _ _)
      | (with_reducible exact LeO.refl _)
      | (with_reducible exact LeO.none _)
      | (with_reducible refine LeO.ite ?_ ?_)
      | (with_reducible refine LeO.bind ?_ (fun _ => ?_))
      | exact ih0 _ _ _ _
      | exact LeO.none _
      | refine LeO.ite ?_ ?_
      | refine LeO.bind ?_ (fun _ => ?_)
set_option maxHeartbeats 8000000 in
set_option maxRecDepth 100000 in
theorem code_Op.calls (k : Nat) (a0 : ByteArray) (r1 : Int) (r2 : Bool) (w : World) (h : code_Op.f k a0 = some (r1, r2)) :
    Calls Try.prog 8 #[.string a0] w fun e w' => e = .returned (.tuple #[.int .i64 r1, .bool r2]) ∧ Below w.heap.size w w' := by
  have hu47 := Try.underlying47
  have HB := Aside0.mk (Below.refl w.heap.size w)
  have H : ((code_forms.f).bind fun t104 => (code_Op.l0 k a0 t104 (t104.length : Int) 0)) = some (r1, r2) := h
  clear h
  replace H := Option.bind_eq_some_iff.mp H
  obtain ⟨t104, A20, H⟩ := H
  replace H : (code_Op.l0 k a0 t104 (t104.length : Int) 0) = some (r1, r2) := H
  have A2 := Aside0.mk A20
  clear A20
  have H' := Aside0.mk H
  clear H
  go_enter Try.func8, Try.ntmps8
  go_wp2_with (first | ((with_reducible refine gate_callee (f := 18) rfl ?_); refine goesL_ (some 6) rfl rfl Try.func18 (by kernel_rfl) rfl #[] rfl (by (try simp only [List.map_toArray, List.map_cons, List.map_nil]); first | done | rfl | (simp only [List.length_drop, List.length_take]; rfl)) ?_; (with_reducible refine (code_forms.calls  t104 _ A2.out).mono ?_); rintro e w3 ⟨v105, rfl, ho0, hb⟩; refine ⟨_, rfl, ?_⟩; have n0_ := Aside0.mk (Kd.R_lower ho0 (below_size (by repeat (first | (with_reducible first | exact HB.out | apply below_alloc | apply pw_below_drewN | apply below_drew1) | exact HB.out)))); have n1_ := Aside0.mk (below_step (by repeat (first | (with_reducible first | exact HB.out | apply below_alloc | apply pw_below_drewN | apply below_drew1) | exact HB.out)) hb); clear HB; have HO106 := n0_; have HB := n1_; clear n0_ n1_; (try clear hb); (try clear hb2); (try clear hk); (try clear hi); (try clear ho0); obtain ⟨Ao4, co4, eo4⟩ := Kd.R_slice HO106.out; subst eo4))
  go_loopg [8] k (fun kq v8 w' => ∃ (x8_1 : Int), v8 = .int .i64 x8_1 ∧ Aside0 (code_Op.l0 kq a0 t104 (t104.length : Int) x8_1 = some (r1, r2)) ∧ Aside0 (kq ≤ k) ∧ Aside0 (Kd.R k47 47 w' w.heap.size (fun _ => True) (.slice Ao4 t104.length co4) t104) ∧ Aside0 (Below w.heap.size w w'))
  case atStart => exact ⟨(0), (by first | rfl | (simp; done) | (simp [*]; done)), H', ⟨Nat.le_refl _⟩, ⟨by (with_reducible repeat (first | apply Kd.R_alloc | apply Kd.R_drewN | apply Kd.R_drew)); exact HO106.out⟩, ⟨by repeat (first | (with_reducible first | exact HB.out | apply below_alloc | apply pw_below_drewN | apply below_drew1) | exact HB.out)⟩⟩
  case round =>
    clear H'
    try clear c1
    try clear p2
    obtain ⟨x8_1, rfl, HA, HK1, HO_6, HB⟩ := hrel
    cases gk with
    | zero => exact absurd HA.out (by simp [code_Op.l0])
    | succ k1 =>
      have H := HA.out
      clear HA
      simp only [code_Op.l0] at H
      by_cases c5 : x8_1 < (t104.length : Int)
      · rw [if_pos c5] at H
        have c5b0 : decide (x8_1 < (t104.length : Int)) = true := decide_eq_true c5
        clear c5
        by_cases c6 : 0 ≤ x8_1
        · rw [if_pos c6] at H
          have c6b0 : decide (0 ≤ x8_1) = true := decide_eq_true c6
          clear c6
          by_cases c7 : x8_1 < (t104.length : Int)
          · rw [if_pos c7] at H
            have c7b0 : decide (x8_1 < (t104.length : Int)) = true := decide_eq_true c7
            clear c7
            by_cases c8 : ((rd_T47 t104 x8_1).f0).toList = a0.toList
            · rw [if_pos c8] at H
              have c8b0 : (((rd_T47 t104 x8_1).f0).toList == a0.toList) = true := beq_iff_eq.mpr c8
              have c8b1 : (((rd_T47 t104 x8_1).f0).toList != a0.toList) = false := bne_eq_false_iff_eq.mpr c8
              clear c8
              simp only [Option.some.injEq, Prod.mk.injEq] at H
              obtain ⟨rfl, rfl⟩ := H
              have p107 : 0 ≤ (x8_1 : Int) := of_decide_eq_true (by first | (with_reducible assumption) | assumption)
              have q107 : x8_1 < (t104.length : Int) := of_decide_eq_true (by first | (with_reducible assumption) | assumption)
              obtain ⟨ad107, e107, hx107_0, hx107_1⟩ := at_T47 (Kd.R_reads' HO_6.out).2.2 x8_1 p107 q107
              cases e107
              replace p107 := eq_true p107
              replace q107 := eq_true q107
              go_wp2_with (first | ((with_reducible refine gate_dst (N := 5) rfl ?_); refine box_event ?hg (N := 5) ?hd (cs := #[.string (⟨#[]⟩ : ByteArray), .int .i64 0]) (t := 47) ?hr ?_; (case hd => rfl); (case hg => rfl); (case hr => first | (go_simp; done) | (go_simp; rfl)); intro gb108 hg w9 hbox hb; have n0_ := Aside0.mk (Kd.R_below (Kd.R_elderB (by (with_reducible repeat (first | apply Kd.R_alloc | apply Kd.R_drewN | apply Kd.R_drew)); exact HO_6.out) gb108 (Nat.le_of_eq hg.symm)) hb); have n1_ := Aside0.mk (below_step (by repeat (first | (with_reducible first | exact HB.out | apply below_alloc | apply pw_below_drewN | apply below_drew1) | exact HB.out)) hb); have n2_ := Aside0.mk (hbox); have n3_ := Aside0.mk ((by rw [hg]; exact (below_size (by repeat (first | (with_reducible first | exact HB.out | apply below_alloc | apply pw_below_drewN | apply below_drew1) | exact HB.out))) : w.heap.size ≤ gb108)); have n4_ := Aside0.mk ((by rw [hg]; exact (below_size (by repeat (first | (with_reducible first | exact HB.out | apply below_alloc | apply pw_below_drewN | apply below_drew1) | exact HB.out))) : w.heap.size ≤ gb108)); clear HO_6; clear HB; have HO_6 := n0_; have HB := n1_; have BK108 := n2_; have GW108 := n3_; have GE108 := n4_; clear n0_ n1_ n2_ n3_ n4_; clear hb hbox hg; have hcz10_0 : w9.cell? ⟨gb108, 0, none⟩ = some (.string (⟨#[]⟩ : ByteArray)) := (blk_cell BK108.out 0).trans rfl; have hcz10_1 : w9.cell? ⟨gb108, 1, none⟩ = some (.int .i64 0) := (blk_cell BK108.out 1).trans rfl; have hfz10_0 := blk_frozen BK108.out 0; have hfz10_1 := blk_frozen BK108.out 1))
              go_ret2
              exact ⟨by first | rfl | (simp [errW_none, errW_some] <;> rfl) | (simp [*, errW_none, errW_some] <;> rfl), by repeat (first | (with_reducible first | exact HB.out | apply below_alloc | apply pw_below_drewN | apply below_drew1 | refine below_set ?_ GE108.out) | exact HB.out)⟩
            · rw [if_neg c8] at H
              have c8b0 : (((rd_T47 t104 x8_1).f0).toList == a0.toList) = false := beq_eq_false_iff_ne.mpr c8
              have c8b1 : (((rd_T47 t104 x8_1).f0).toList != a0.toList) = true := bne_iff_ne.mpr c8
              have H' := Aside0.mk H
              clear H
              have p107 : 0 ≤ (x8_1 : Int) := of_decide_eq_true (by first | (with_reducible assumption) | assumption)
              have q107 : x8_1 < (t104.length : Int) := of_decide_eq_true (by first | (with_reducible assumption) | assumption)
              obtain ⟨ad107, e107, hx107_0, hx107_1⟩ := at_T47 (Kd.R_reads' HO_6.out).2.2 x8_1 p107 q107
              cases e107
              replace p107 := eq_true p107
              replace q107 := eq_true q107
              go_wp2_with (first | ((with_reducible refine gate_dst (N := 5) rfl ?_); refine box_event ?hg (N := 5) ?hd (cs := #[.string (⟨#[]⟩ : ByteArray), .int .i64 0]) (t := 47) ?hr ?_; (case hd => rfl); (case hg => rfl); (case hr => first | (go_simp; done) | (go_simp; rfl)); intro gb108 hg w11 hbox hb; have n0_ := Aside0.mk (Kd.R_below (Kd.R_elderB (by (with_reducible repeat (first | apply Kd.R_alloc | apply Kd.R_drewN | apply Kd.R_drew)); exact HO_6.out) gb108 (Nat.le_of_eq hg.symm)) hb); have n1_ := Aside0.mk (below_step (by repeat (first | (with_reducible first | exact HB.out | apply below_alloc | apply pw_below_drewN | apply below_drew1) | exact HB.out)) hb); have n2_ := Aside0.mk (hbox); have n3_ := Aside0.mk ((by rw [hg]; exact (below_size (by repeat (first | (with_reducible first | exact HB.out | apply below_alloc | apply pw_below_drewN | apply below_drew1) | exact HB.out))) : w.heap.size ≤ gb108)); have n4_ := Aside0.mk ((by rw [hg]; exact (below_size (by repeat (first | (with_reducible first | exact HB.out | apply below_alloc | apply pw_below_drewN | apply below_drew1) | exact HB.out))) : w.heap.size ≤ gb108)); clear HO_6; clear HB; have HO_6 := n0_; have HB := n1_; have BK108 := n2_; have GW108 := n3_; have GE108 := n4_; clear n0_ n1_ n2_ n3_ n4_; clear hb hbox hg; have hcz12_0 : w11.cell? ⟨gb108, 0, none⟩ = some (.string (⟨#[]⟩ : ByteArray)) := (blk_cell BK108.out 0).trans rfl; have hcz12_1 : w11.cell? ⟨gb108, 1, none⟩ = some (.int .i64 0) := (blk_cell BK108.out 1).trans rfl; have hfz12_0 := blk_frozen BK108.out 0; have hfz12_1 := blk_frozen BK108.out 1))
              go_roundg k1
              case measure => have := HK1.out; omega
              case rel => exact ⟨(wrap64 (x8_1 + 1)), (by first | rfl | (simp; done) | (simp [*]; done)), H', ⟨by have := HK1.out; omega⟩, ⟨by (with_reducible repeat (first | apply Kd.R_alloc | apply Kd.R_drewN | apply Kd.R_drew)); exact Kd.R_mono (Kd.R_far (p := ⟨gb108, 1, none⟩) (Kd.R_far (p := ⟨gb108, 0, none⟩) (Kd.R_mono HO_6.out (fun k_ hk => (⟨hk, hk.2⟩ : _ ∧ k_ ≠ gb108))) (fun _ hk => hk.2) (.string ((rd_T47 t104 x8_1).f0))) (fun _ hk => hk.2) (.int .i64 ((rd_T47 t104 x8_1).f1))) (fun _ hk => trivial)⟩, ⟨by repeat (first | (with_reducible first | exact HB.out | apply below_alloc | apply pw_below_drewN | apply below_drew1 | refine below_set ?_ GE108.out) | exact HB.out)⟩⟩
          · rw [if_neg c7] at H
            exact absurd H (by simp)
        · rw [if_neg c6] at H
          exact absurd H (by simp)
      · rw [if_neg c5] at H
        have c5b0 : decide (x8_1 < (t104.length : Int)) = false := decide_eq_false c5
        clear c5
        simp only [Option.some.injEq, Prod.mk.injEq] at H
        obtain ⟨rfl, rfl⟩ := H
        go_wp2
        go_ret2
        exact ⟨by first | rfl | (simp [errW_none, errW_some] <;> rfl) | (simp [*, errW_none, errW_some] <;> rfl), by repeat (first | (with_reducible first | exact HB.out | apply below_alloc | apply pw_below_drewN | apply below_drew1) | exact HB.out)⟩

/-! ### code_known: function 20 -/
def code_known.f (a0 : Int) : Option (Bool) := if a0 ≥ 0 then (some (decide (a0 ≤ 25))) else (some false)
set_option maxHeartbeats 8000000 in
set_option maxRecDepth 100000 in
theorem code_known.calls (a0 : Int) (r : Bool) (w : World) (h : code_known.f a0 = some r) :
    Calls Try.prog 20 #[.int .i64 a0] w fun e w' => e = .returned (.bool r) ∧ Drawn0 w w' := by
  have H : (if a0 ≥ 0 then (some (decide (a0 ≤ 25))) else (some false)) = some r := h
  clear h
  by_cases c2 : a0 ≥ 0
  · rw [if_pos c2] at H
    have c2b0 : decide (0 ≤ a0) = true := decide_eq_true c2
    clear c2
    obtain rfl := Option.some.inj H
    go_enter Try.func20, Try.ntmps20
    go_wp2
    go_ret
    exact ⟨by first | rfl | (simp; done) | (simp [*]; done), by repeat (first | exact Drawn0.refl _ | apply Drawn0.step)⟩
  · rw [if_neg c2] at H
    have c2b0 : decide (0 ≤ a0) = false := decide_eq_false c2
    clear c2
    obtain rfl := Option.some.inj H
    go_enter Try.func20, Try.ntmps20
    go_wp2
    go_ret
    exact ⟨by first | rfl | (simp; done) | (simp [*]; done), by repeat (first | exact Drawn0.refl _ | apply Drawn0.step)⟩

/-! ### code_Name: function 10 -/
def code_Name.f (a0 : Int) : Option (ByteArray) := (code_known.f a0).bind fun t109 => (if t109 = true then ((code_forms.f).bind fun t110 => (if 0 ≤ a0 then (if a0 < (t110.length : Int) then (some ((rd_T47 t110 a0).f0)) else (none)) else (none))) else (some (⟨#[]⟩ : ByteArray)))
set_option maxHeartbeats 8000000 in
set_option maxRecDepth 100000 in
theorem code_Name.calls (a0 : Int) (r : ByteArray) (w : World) (h : code_Name.f a0 = some r) :
    Calls Try.prog 10 #[.int .i64 a0] w fun e w' => e = .returned (.string r) ∧ Below w.heap.size w w' := by
  have HB := Aside0.mk (Below.refl w.heap.size w)
  have H : ((code_known.f a0).bind fun t109 => (if t109 = true then ((code_forms.f).bind fun t110 => (if 0 ≤ a0 then (if a0 < (t110.length : Int) then (some ((rd_T47 t110 a0).f0)) else (none)) else (none))) else (some (⟨#[]⟩ : ByteArray)))) = some r := h
  clear h
  replace H := Option.bind_eq_some_iff.mp H
  obtain ⟨t109, A20, H⟩ := H
  replace H : (if t109 = true then ((code_forms.f).bind fun t110 => (if 0 ≤ a0 then (if a0 < (t110.length : Int) then (some ((rd_T47 t110 a0).f0)) else (none)) else (none))) else (some (⟨#[]⟩ : ByteArray))) = some r := H
  have A2 := Aside0.mk A20
  clear A20
  by_cases c3 : t109 = true
  · subst c3
    have H1 : ((code_forms.f).bind fun t110 => (if 0 ≤ a0 then (if a0 < (t110.length : Int) then (some ((rd_T47 t110 a0).f0)) else (none)) else (none))) = some r := by rw [if_pos rfl] at H; exact H
    clear H
    have H := H1
    clear H1
    replace H := Option.bind_eq_some_iff.mp H
    obtain ⟨t110, A40, H⟩ := H
    replace H : (if 0 ≤ a0 then (if a0 < (t110.length : Int) then (some ((rd_T47 t110 a0).f0)) else (none)) else (none)) = some r := H
    have A4 := Aside0.mk A40
    clear A40
    by_cases c5 : 0 ≤ a0
    · rw [if_pos c5] at H
      have c5b0 : decide (0 ≤ a0) = true := decide_eq_true c5
      clear c5
      by_cases c6 : a0 < (t110.length : Int)
      · rw [if_pos c6] at H
        have c6b0 : decide (a0 < (t110.length : Int)) = true := decide_eq_true c6
        clear c6
        obtain rfl := Option.some.inj H
        go_enter Try.func10, Try.ntmps10
        go_wp2_with (first | ((with_reducible refine gate_callee (f := 20) rfl ?_); refine goesL_ (some 4) rfl rfl Try.func20 (by kernel_rfl) rfl #[.int .i64 a0] rfl (by (try simp only [List.map_toArray, List.map_cons, List.map_nil]); first | done | rfl | (simp only [List.length_drop, List.length_take]; rfl)) ?_; (with_reducible refine (code_known.calls a0 true _ A2.out).mono ?_); rintro e w' ⟨rfl, ⟨nd, rfl⟩⟩; refine ⟨_, rfl, ?_⟩) | ((with_reducible refine gate_callee (f := 18) rfl ?_); refine goesL_ (some 6) rfl rfl Try.func18 (by kernel_rfl) rfl #[] rfl (by (try simp only [List.map_toArray, List.map_cons, List.map_nil]); first | done | rfl | (simp only [List.length_drop, List.length_take]; rfl)) ?_; (with_reducible refine (code_forms.calls  t110 _ A4.out).mono ?_); rintro e w7 ⟨v111, rfl, ho0, hb⟩; refine ⟨_, rfl, ?_⟩; have n0_ := Aside0.mk (Kd.R_lower ho0 (below_size (by repeat (first | (with_reducible first | exact HB.out | apply below_alloc | apply pw_below_drewN | apply below_drew1) | exact HB.out)))); have n1_ := Aside0.mk (below_step (by repeat (first | (with_reducible first | exact HB.out | apply below_alloc | apply pw_below_drewN | apply below_drew1) | exact HB.out)) hb); clear HB; have HO112 := n0_; have HB := n1_; clear n0_ n1_; (try clear hb); (try clear hb2); (try clear hk); (try clear hi); (try clear ho0); obtain ⟨Ao8, co8, eo8⟩ := Kd.R_slice HO112.out; subst eo8; have p113 : 0 ≤ (a0 : Int) := of_decide_eq_true (by first | (with_reducible assumption) | assumption); have q113 : a0 < (t110.length : Int) := of_decide_eq_true (by first | (with_reducible assumption) | assumption); obtain ⟨ad113, e113, hx113_0, hx113_1⟩ := at_T47 (Kd.R_reads' HO112.out).2.2 a0 p113 q113; cases e113; replace p113 := eq_true p113; replace q113 := eq_true q113))
        go_ret
        exact ⟨by first | rfl | (simp [errW_none, errW_some] <;> rfl) | (simp [*, errW_none, errW_some] <;> rfl), by repeat (first | (with_reducible first | exact HB.out | apply below_alloc | apply pw_below_drewN | apply below_drew1) | exact HB.out)⟩
      · rw [if_neg c6] at H
        exact absurd H (by simp)
    · rw [if_neg c5] at H
      exact absurd H (by simp)
  · replace c3 := Bool.eq_false_iff.mpr c3
    subst c3
    have H1 : (some (⟨#[]⟩ : ByteArray)) = some r := by rw [if_neg (show ¬ (false = true) by decide)] at H; exact H
    clear H
    have H := H1
    clear H1
    obtain rfl := Option.some.inj H
    go_enter Try.func10, Try.ntmps10
    go_wp2_with (first | ((with_reducible refine gate_callee (f := 20) rfl ?_); refine goesL_ (some 4) rfl rfl Try.func20 (by kernel_rfl) rfl #[.int .i64 a0] rfl (by (try simp only [List.map_toArray, List.map_cons, List.map_nil]); first | done | rfl | (simp only [List.length_drop, List.length_take]; rfl)) ?_; (with_reducible refine (code_known.calls a0 false _ A2.out).mono ?_); rintro e w' ⟨rfl, ⟨nd, rfl⟩⟩; refine ⟨_, rfl, ?_⟩))
    go_ret
    exact ⟨by first | rfl | (simp [errW_none, errW_some] <;> rfl) | (simp [*, errW_none, errW_some] <;> rfl), by repeat (first | (with_reducible first | exact HB.out | apply below_alloc | apply pw_below_drewN | apply below_drew1) | exact HB.out)⟩

/-! ### code_kept: function 24 -/
mutual
def code_kept.j0 : Nat → Int → Int → Int → Int → Int → Int → Int → Int → Int → Int → Int → Option (Int × Int × Int × Int × Int)
  | 0, _, _, _, _, _, _, _, _, _, _, _ => none
  | k + 1, x1, x115000, x115001, x115002, x115003, x115004, x117000, x117001, x117002, x117003, x117004 => if (Go.bits .and .i64 x1 2) = 0 then (code_kept.j1 k x1 x115000 x115001 x115002 x115003 x115004 x117000 x117001 x117002 x117003 x117004) else (code_kept.j1 k x1 x115000 x115001 x115002 x115003 x115004 x117000 x117001 x115002 x117003 x117004)
def code_kept.j1 : Nat → Int → Int → Int → Int → Int → Int → Int → Int → Int → Int → Int → Option (Int × Int × Int × Int × Int)
  | 0, _, _, _, _, _, _, _, _, _, _, _ => none
  | k + 1, x1, x115000, x115001, x115002, x115003, x115004, x117000, x117001, x117002, x117003, x117004 => if (Go.bits .and .i64 x1 12) = 0 then (if (Go.bits .and .i64 x1 16) = 0 then (some (x117000, x117001, x117002, x117003, x117004)) else (some (x117000, x117001, x117002, x117003, x115004))) else (if (Go.bits .and .i64 x1 16) = 0 then (some (x117000, x117001, x117002, x115003, x117004)) else (some (x117000, x117001, x117002, x115003, x115004)))
end
def code_kept.f (k : Nat) (a0_0 : Int) (a0_1 : Int) (a0_2 : Int) (a0_3 : Int) (a0_4 : Int) (a1 : Int) : Option (Int × Int × Int × Int × Int) := if (Go.bits .and .i64 a1 1) = 0 then (code_kept.j0 k a1 a0_0 a0_1 a0_2 a0_3 a0_4 a0_0 0 0 0 0) else (code_kept.j0 k a1 a0_0 a0_1 a0_2 a0_3 a0_4 a0_0 a0_1 0 0 0)
theorem code_kept.mono_l : ∀ k, (∀ y0 y1 y2 y3 y4 y5 y6 y7 y8 y9 y10, LeO (code_kept.j0 k y0 y1 y2 y3 y4 y5 y6 y7 y8 y9 y10) (code_kept.j0 (k + 1) y0 y1 y2 y3 y4 y5 y6 y7 y8 y9 y10)) ∧ (∀ y0 y1 y2 y3 y4 y5 y6 y7 y8 y9 y10, LeO (code_kept.j1 k y0 y1 y2 y3 y4 y5 y6 y7 y8 y9 y10) (code_kept.j1 (k + 1) y0 y1 y2 y3 y4 y5 y6 y7 y8 y9 y10))
  | 0 => ⟨fun _ _ _ _ _ _ _ _ _ _ _ r h => by simp [code_kept.j0] at h, fun _ _ _ _ _ _ _ _ _ _ _ r h => by simp [code_kept.j1] at h⟩
  | k + 1 => by
    obtain ⟨ih0, ih1⟩ := code_kept.mono_l k
    refine ⟨?_, ?_⟩
    · intro y0 y1 y2 y3 y4 y5 y6 y7 y8 y9 y10
      unfold code_kept.j0
      repeat' first
      | (with_reducible exact ih0 _ _ _ _ _ _ _ _ _ _ _)
      | (with_reducible exact ih1 _ _ _ _ _ _ _ _ _ _ _)
      | (with_reducible exact LeO.refl _)
      | (with_reducible exact LeO.none _)
      | (with_reducible refine LeO.ite ?_ ?_)
      | (with_reducible refine LeO.bind ?_ (fun _ => ?_))
      | exact ih0 _ _ _ _ _ _ _ _ _ _ _
      | exact ih1 _ _ _ _ _ _ _ _ _ _ _
      | exact LeO.none _
      | refine LeO.ite ?_ ?_
      | refine LeO.bind ?_ (fun _ => ?_)
    · intro y0 y1 y2 y3 y4 y5 y6 y7 y8 y9 y10
      unfold code_kept.j1
      repeat' first
      | (with_reducible exact ih0 _ _ _ _ _ _ _ _ _ _ _)
      | (with_reducible exact ih1 _ _ _ _ _ _ _ _ _ _ _)
      | (with_reducible exact LeO.refl _)
      | (with_reducible exact LeO.none _)
      | (with_reducible refine LeO.ite ?_ ?_)
      | (with_reducible refine LeO.bind ?_ (fun _ => ?_))
      | exact ih0 _ _ _ _ _ _ _ _ _ _ _
      | exact ih1 _ _ _ _ _ _ _ _ _ _ _
      | exact LeO.none _
      | refine LeO.ite ?_ ?_
      | refine LeO.bind ?_ (fun _ => ?_)
theorem code_kept.mono : ∀ a0 a1 a2 a3 a4 a5 k, LeO (code_kept.f k a0 a1 a2 a3 a4 a5) (code_kept.f (k + 1) a0 a1 a2 a3 a4 a5) := by
  intro a0 a1 a2 a3 a4 a5 k
  obtain ⟨ih0, ih1⟩ := code_kept.mono_l k
  unfold code_kept.f
  repeat' first
      | (with_reducible exact ih0 _ _ _ _ _ _ _ _ _ _ _)
      | (with_reducible exact ih1 _ _ _ _ _ _ _ _ _ _ _)
      | (with_reducible exact LeO.refl _)
      | (with_reducible exact LeO.none _)
      | (with_reducible refine LeO.ite ?_ ?_)
      | (with_reducible refine LeO.bind ?_ (fun _ => ?_))
      | exact ih0 _ _ _ _ _ _ _ _ _ _ _
      | exact ih1 _ _ _ _ _ _ _ _ _ _ _
      | exact LeO.none _
      | refine LeO.ite ?_ ?_
      | refine LeO.bind ?_ (fun _ => ?_)
set_option maxHeartbeats 8000000 in
set_option maxRecDepth 100000 in
theorem code_kept.calls (k : Nat) (a0_0 : Int) (a0_1 : Int) (a0_2 : Int) (a0_3 : Int) (a0_4 : Int) (a1 : Int) (r1 : Int) (r2 : Int) (r3 : Int) (r4 : Int) (r5 : Int) (w : World) (h : code_kept.f k a0_0 a0_1 a0_2 a0_3 a0_4 a1 = some (r1, r2, r3, r4, r5)) :
    Calls Try.prog 24 #[.agg #[.int .i64 a0_0, .int .i64 a0_1, .int .i64 a0_2, .int .i64 a0_3, .int .u64 a0_4], .int .i64 a1] w fun e w' => e = .returned (.agg #[.int .i64 r1, .int .i64 r2, .int .i64 r3, .int .i64 r4, .int .u64 r5]) ∧ Below w.heap.size w w' := by
  have hu30 := Try.underlying30
  have HB := Aside0.mk (Below.refl w.heap.size w)
  have H : (if (Go.bits .and .i64 a1 1) = 0 then (code_kept.j0 k a1 a0_0 a0_1 a0_2 a0_3 a0_4 a0_0 0 0 0 0) else (code_kept.j0 k a1 a0_0 a0_1 a0_2 a0_3 a0_4 a0_0 a0_1 0 0 0)) = some (r1, r2, r3, r4, r5) := h
  clear h
  have HC3 := Aside0.mk H
  clear H
  go_enter Try.func24, Try.ntmps24
  go_upto_if 11 with (first | ((with_reducible refine gate_dst (N := 2) rfl ?_); refine box_event ?hg (N := 2) ?hd (cs := #[.int .i64 a0_0, .int .i64 a0_1, .int .i64 a0_2, .int .i64 a0_3, .int .u64 a0_4]) (t := 30) ?hr ?_; (case hd => rfl); (case hg => rfl); (case hr => first | (go_simp; done) | (go_simp; rfl)); intro gb114 hg w4 hbox hb; have n0_ := Aside0.mk (below_step (by repeat (first | (with_reducible first | exact HB.out | apply below_alloc | apply pw_below_drewN | apply below_drew1) | exact HB.out)) hb); have n1_ := Aside0.mk (hbox); have n2_ := Aside0.mk ((by rw [hg]; exact (below_size (by repeat (first | (with_reducible first | exact HB.out | apply below_alloc | apply pw_below_drewN | apply below_drew1) | exact HB.out))) : w.heap.size ≤ gb114)); have n3_ := Aside0.mk ((by rw [hg]; exact (below_size (by repeat (first | (with_reducible first | exact HB.out | apply below_alloc | apply pw_below_drewN | apply below_drew1) | exact HB.out))) : w.heap.size ≤ gb114)); clear HB; have HB := n0_; have BK114 := n1_; have GW114 := n2_; have GE114 := n3_; clear n0_ n1_ n2_ n3_; clear hb hbox hg) | ((with_reducible refine gate_dst (N := 4) rfl ?_); refine box_event ?hg (N := 4) ?hd (cs := #[.int .i64 0, .int .i64 0, .int .i64 0, .int .i64 0, .int .u64 0]) (t := 30) ?hr ?_; (case hd => rfl); (case hg => rfl); (case hr => first | (go_simp; done) | (go_simp; rfl)); intro gb115 hg w5 hbox hb; have n0_ := Aside0.mk (blk_below (g := gb114) (o := .cells #[.int .i64 a0_0, .int .i64 a0_1, .int .i64 a0_2, .int .i64 a0_3, .int .u64 a0_4] 30 (0, 0)) (by (with_reducible repeat (first | refine blk_drewN ?_ _ | refine blk_drew ?_ | refine blk_alloc ?_ _)); exact BK114.out) hb); have n1_ := Aside0.mk (below_step (by repeat (first | (with_reducible first | exact HB.out | apply below_alloc | apply pw_below_drewN | apply below_drew1 | refine below_set ?_ GE114.out) | exact HB.out)) hb); have n2_ := Aside0.mk (hbox); have n3_ := Aside0.mk ((by rw [hg]; exact (below_size (by repeat (first | (with_reducible first | exact HB.out | apply below_alloc | apply pw_below_drewN | apply below_drew1 | refine below_set ?_ GE114.out) | exact HB.out))) : w.heap.size ≤ gb115)); have n4_ := Aside0.mk ((by rw [hg]; exact (below_size (by repeat (first | (with_reducible first | exact HB.out | apply below_alloc | apply pw_below_drewN | apply below_drew1 | refine below_set ?_ GE114.out) | exact HB.out))) : w.heap.size ≤ gb115)); have n5_ := Aside0.mk ((by rw [hg]; exact Nat.ne_of_lt (blk_lt (g := gb114) (o := .cells #[.int .i64 a0_0, .int .i64 a0_1, .int .i64 a0_2, .int .i64 a0_3, .int .u64 a0_4] 30 (0, 0)) (by (with_reducible repeat (first | refine blk_drewN ?_ _ | refine blk_drew ?_ | refine blk_alloc ?_ _)); exact BK114.out)) : gb114 ≠ gb115)); have n6_ := Aside0.mk ((by rw [hg]; exact Nat.ne_of_gt (blk_lt (g := gb114) (o := .cells #[.int .i64 a0_0, .int .i64 a0_1, .int .i64 a0_2, .int .i64 a0_3, .int .u64 a0_4] 30 (0, 0)) (by (with_reducible repeat (first | refine blk_drewN ?_ _ | refine blk_drew ?_ | refine blk_alloc ?_ _)); exact BK114.out)) : gb115 ≠ gb114)); clear BK114; clear HB; have BK114 := n0_; have HB := n1_; have BK115 := n2_; have GW115 := n3_; have GE115 := n4_; have NB114_115 := n5_; have NB115_114 := n6_; clear n0_ n1_ n2_ n3_ n4_ n5_ n6_; clear hb hbox hg; have hnb6 := NB114_115.out; have hnc6 := NB115_114.out; have hcz7_0 : w5.cell? ⟨gb114, 0, none⟩ = some (.int .i64 a0_0) := (blk_cell BK114.out 0).trans rfl; have hcz7_1 : w5.cell? ⟨gb114, 1, none⟩ = some (.int .i64 a0_1) := (blk_cell BK114.out 1).trans rfl; have hcz7_2 : w5.cell? ⟨gb114, 2, none⟩ = some (.int .i64 a0_2) := (blk_cell BK114.out 2).trans rfl; have hcz7_3 : w5.cell? ⟨gb114, 3, none⟩ = some (.int .i64 a0_3) := (blk_cell BK114.out 3).trans rfl; have hcz7_4 : w5.cell? ⟨gb114, 4, none⟩ = some (.int .u64 a0_4) := (blk_cell BK114.out 4).trans rfl; have hfz7_0 := blk_frozen BK114.out 0; have hfz7_1 := blk_frozen BK114.out 1; have hfz7_2 := blk_frozen BK114.out 2; have hfz7_3 := blk_frozen BK114.out 3; have hfz7_4 := blk_frozen BK114.out 4) | ((with_reducible refine gate_dst (N := 5) rfl ?_); refine box_event ?hg (N := 5) ?hd (cs := #[.int .i64 0, .int .i64 0, .int .i64 0, .int .i64 0, .int .u64 0]) (t := 30) ?hr ?_; (case hd => rfl); (case hg => rfl); (case hr => first | (go_simp; done) | (go_simp; rfl)); intro gb116 hg w8 hbox hb; have n0_ := Aside0.mk (blk_below (g := gb114) (o := .cells #[.int .i64 a0_0, .int .i64 a0_1, .int .i64 a0_2, .int .i64 a0_3, .int .u64 a0_4] 30 (0, 0)) (by (with_reducible repeat (first | refine blk_drewN ?_ _ | refine blk_drew ?_ | refine blk_alloc ?_ _)); exact BK114.out) hb); have n1_ := Aside0.mk (blk_below (g := gb115) (o := .cells #[.int .i64 0, .int .i64 0, .int .i64 0, .int .i64 0, .int .u64 0] 30 (0, 0)) (by (with_reducible repeat (first | refine blk_drewN ?_ _ | refine blk_drew ?_ | refine blk_alloc ?_ _)); exact BK115.out) hb); have n2_ := Aside0.mk (below_step (by repeat (first | (with_reducible first | exact HB.out | apply below_alloc | apply pw_below_drewN | apply below_drew1 | refine below_set ?_ GE114.out | refine below_set ?_ GE115.out) | exact HB.out)) hb); have n3_ := Aside0.mk (hbox); have n4_ := Aside0.mk ((by rw [hg]; exact (below_size (by repeat (first | (with_reducible first | exact HB.out | apply below_alloc | apply pw_below_drewN | apply below_drew1 | refine below_set ?_ GE114.out | refine below_set ?_ GE115.out) | exact HB.out))) : w.heap.size ≤ gb116)); have n5_ := Aside0.mk ((by rw [hg]; exact (below_size (by repeat (first | (with_reducible first | exact HB.out | apply below_alloc | apply pw_below_drewN | apply below_drew1 | refine below_set ?_ GE114.out | refine below_set ?_ GE115.out) | exact HB.out))) : w.heap.size ≤ gb116)); have n6_ := Aside0.mk ((by rw [hg]; exact Nat.ne_of_lt (blk_lt (g := gb114) (o := .cells #[.int .i64 a0_0, .int .i64 a0_1, .int .i64 a0_2, .int .i64 a0_3, .int .u64 a0_4] 30 (0, 0)) (by (with_reducible repeat (first | refine blk_drewN ?_ _ | refine blk_drew ?_ | refine blk_alloc ?_ _)); exact BK114.out)) : gb114 ≠ gb116)); have n7_ := Aside0.mk ((by rw [hg]; exact Nat.ne_of_gt (blk_lt (g := gb114) (o := .cells #[.int .i64 a0_0, .int .i64 a0_1, .int .i64 a0_2, .int .i64 a0_3, .int .u64 a0_4] 30 (0, 0)) (by (with_reducible repeat (first | refine blk_drewN ?_ _ | refine blk_drew ?_ | refine blk_alloc ?_ _)); exact BK114.out)) : gb116 ≠ gb114)); have n8_ := Aside0.mk ((by rw [hg]; exact Nat.ne_of_lt (blk_lt (g := gb115) (o := .cells #[.int .i64 0, .int .i64 0, .int .i64 0, .int .i64 0, .int .u64 0] 30 (0, 0)) (by (with_reducible repeat (first | refine blk_drewN ?_ _ | refine blk_drew ?_ | refine blk_alloc ?_ _)); exact BK115.out)) : gb115 ≠ gb116)); have n9_ := Aside0.mk ((by rw [hg]; exact Nat.ne_of_gt (blk_lt (g := gb115) (o := .cells #[.int .i64 0, .int .i64 0, .int .i64 0, .int .i64 0, .int .u64 0] 30 (0, 0)) (by (with_reducible repeat (first | refine blk_drewN ?_ _ | refine blk_drew ?_ | refine blk_alloc ?_ _)); exact BK115.out)) : gb116 ≠ gb115)); clear BK114; clear BK115; clear HB; have BK114 := n0_; have BK115 := n1_; have HB := n2_; have BK116 := n3_; have GW116 := n4_; have GE116 := n5_; have NB114_116 := n6_; have NB116_114 := n7_; have NB115_116 := n8_; have NB116_115 := n9_; clear n0_ n1_ n2_ n3_ n4_ n5_ n6_ n7_ n8_ n9_; clear hb hbox hg; have hnb9 := NB116_114.out; have hnc9 := NB114_116.out; have hnb10 := NB116_115.out; have hnc10 := NB115_116.out; have hcz11_0 : w8.cell? ⟨gb116, 0, none⟩ = some (.int .i64 0) := (blk_cell BK116.out 0).trans rfl; have hcz11_1 : w8.cell? ⟨gb116, 1, none⟩ = some (.int .i64 0) := (blk_cell BK116.out 1).trans rfl; have hcz11_2 : w8.cell? ⟨gb116, 2, none⟩ = some (.int .i64 0) := (blk_cell BK116.out 2).trans rfl; have hcz11_3 : w8.cell? ⟨gb116, 3, none⟩ = some (.int .i64 0) := (blk_cell BK116.out 3).trans rfl; have hcz11_4 : w8.cell? ⟨gb116, 4, none⟩ = some (.int .u64 0) := (blk_cell BK116.out 4).trans rfl; have hfz11_0 := blk_frozen BK116.out 0; have hfz11_1 := blk_frozen BK116.out 1; have hfz11_2 := blk_frozen BK116.out 2; have hfz11_3 := blk_frozen BK116.out 3; have hfz11_4 := blk_frozen BK116.out 4))
  (try simp only [Act.put, List.setIfInBounds_toArray, List.set_cons_zero, List.set_cons_succ])
  go_cut [] (fun wc => ∃ (kq : Nat) (x117001_2 : Int), Aside0 (code_kept.j0 kq a1 a0_0 a0_1 a0_2 a0_3 a0_4 a0_0 x117001_2 0 0 0 = some (r1, r2, r3, r4, r5)) ∧ Aside0 (kq ≤ k) ∧ Aside0 (wc.heap[gb114]? = some (.cells #[.int .i64 a0_0, .int .i64 a0_1, .int .i64 a0_2, .int .i64 a0_3, .int .u64 a0_4] 30 (0, 0))) ∧ Aside0 (wc.heap[gb115]? = some (.cells #[.int .i64 0, .int .i64 0, .int .i64 0, .int .i64 0, .int .u64 0] 30 (0, 0))) ∧ Aside0 (wc.heap[gb116]? = some (.cells #[.int .i64 a0_0, .int .i64 x117001_2, .int .i64 0, .int .i64 0, .int .u64 0] 30 (0, 0))) ∧ Aside0 (Below w.heap.size w wc))
  case first =>
    have H := HC3.out
    clear HC3
    by_cases c12 : (Go.bits .and .i64 a1 1) = 0
    · rw [if_pos c12] at H
      have c12b0 : ((Go.bits .and .i64 a1 1) == 0) = true := beq_iff_eq.mpr c12
      have c12b1 : ((Go.bits .and .i64 a1 1) != 0) = false := bne_eq_false_iff_eq.mpr c12
      clear c12
      (first | rw [c12b0] | (simp only [i64_w, i32_w]; rw [c12b0]) | skip)
      have H' := Aside0.mk H
      clear H
      go_wp2
      go_meet
      case rel => exact ⟨_, (0), H', ⟨by first | omega | exact Nat.le_refl _⟩, ⟨by (with_reducible repeat (first | refine blk_drewN ?_ _ | refine blk_drew ?_ | refine blk_alloc ?_ _)); refine blk_far ?_ NB114_116.out _; (with_reducible repeat (first | refine blk_drewN ?_ _ | refine blk_drew ?_ | refine blk_alloc ?_ _)); refine blk_far ?_ NB114_116.out _; (with_reducible repeat (first | refine blk_drewN ?_ _ | refine blk_drew ?_ | refine blk_alloc ?_ _)); refine blk_far ?_ NB114_116.out _; (with_reducible repeat (first | refine blk_drewN ?_ _ | refine blk_drew ?_ | refine blk_alloc ?_ _)); refine blk_far ?_ NB114_116.out _; (with_reducible repeat (first | refine blk_drewN ?_ _ | refine blk_drew ?_ | refine blk_alloc ?_ _)); refine blk_far ?_ NB114_116.out _; (with_reducible repeat (first | refine blk_drewN ?_ _ | refine blk_drew ?_ | refine blk_alloc ?_ _)); exact BK114.out⟩, ⟨by (with_reducible repeat (first | refine blk_drewN ?_ _ | refine blk_drew ?_ | refine blk_alloc ?_ _)); refine blk_far ?_ NB115_116.out _; (with_reducible repeat (first | refine blk_drewN ?_ _ | refine blk_drew ?_ | refine blk_alloc ?_ _)); refine blk_far ?_ NB115_116.out _; (with_reducible repeat (first | refine blk_drewN ?_ _ | refine blk_drew ?_ | refine blk_alloc ?_ _)); refine blk_far ?_ NB115_116.out _; (with_reducible repeat (first | refine blk_drewN ?_ _ | refine blk_drew ?_ | refine blk_alloc ?_ _)); refine blk_far ?_ NB115_116.out _; (with_reducible repeat (first | refine blk_drewN ?_ _ | refine blk_drew ?_ | refine blk_alloc ?_ _)); refine blk_far ?_ NB115_116.out _; (with_reducible repeat (first | refine blk_drewN ?_ _ | refine blk_drew ?_ | refine blk_alloc ?_ _)); exact BK115.out⟩, ⟨by (with_reducible repeat (first | refine blk_drewN ?_ _ | refine blk_drew ?_ | refine blk_alloc ?_ _)); refine blk_put (cs := #[.int .i64 a0_0, .int .i64 0, .int .i64 0, .int .i64 0, .int .u64 0]) ?_ 4 _ rfl; (with_reducible repeat (first | refine blk_drewN ?_ _ | refine blk_drew ?_ | refine blk_alloc ?_ _)); refine blk_put (cs := #[.int .i64 a0_0, .int .i64 0, .int .i64 0, .int .i64 0, .int .u64 0]) ?_ 3 _ rfl; (with_reducible repeat (first | refine blk_drewN ?_ _ | refine blk_drew ?_ | refine blk_alloc ?_ _)); refine blk_put (cs := #[.int .i64 a0_0, .int .i64 0, .int .i64 0, .int .i64 0, .int .u64 0]) ?_ 2 _ rfl; (with_reducible repeat (first | refine blk_drewN ?_ _ | refine blk_drew ?_ | refine blk_alloc ?_ _)); refine blk_put (cs := #[.int .i64 a0_0, .int .i64 0, .int .i64 0, .int .i64 0, .int .u64 0]) ?_ 1 _ rfl; (with_reducible repeat (first | refine blk_drewN ?_ _ | refine blk_drew ?_ | refine blk_alloc ?_ _)); refine blk_put (cs := #[.int .i64 0, .int .i64 0, .int .i64 0, .int .i64 0, .int .u64 0]) ?_ 0 _ rfl; (with_reducible repeat (first | refine blk_drewN ?_ _ | refine blk_drew ?_ | refine blk_alloc ?_ _)); exact BK116.out⟩, ⟨by repeat (first | (with_reducible first | exact HB.out | apply below_alloc | apply pw_below_drewN | apply below_drew1 | refine below_set ?_ GE114.out | refine below_set ?_ GE115.out | refine below_set ?_ GE116.out) | exact HB.out)⟩⟩
    · rw [if_neg c12] at H
      have c12b0 : ((Go.bits .and .i64 a1 1) == 0) = false := beq_eq_false_iff_ne.mpr c12
      have c12b1 : ((Go.bits .and .i64 a1 1) != 0) = true := bne_iff_ne.mpr c12
      (first | rw [c12b0] | (simp only [i64_w, i32_w]; rw [c12b0]) | skip)
      have H' := Aside0.mk H
      clear H
      have hnb13 := NB114_115.out
      have hnc13 := NB115_114.out
      have hnb14 := NB114_116.out
      have hnc14 := NB116_114.out
      have hcz15_0 : w8.cell? ⟨gb114, 0, none⟩ = some (.int .i64 a0_0) := (blk_cell BK114.out 0).trans rfl
      have hcz15_1 : w8.cell? ⟨gb114, 1, none⟩ = some (.int .i64 a0_1) := (blk_cell BK114.out 1).trans rfl
      have hcz15_2 : w8.cell? ⟨gb114, 2, none⟩ = some (.int .i64 a0_2) := (blk_cell BK114.out 2).trans rfl
      have hcz15_3 : w8.cell? ⟨gb114, 3, none⟩ = some (.int .i64 a0_3) := (blk_cell BK114.out 3).trans rfl
      have hcz15_4 : w8.cell? ⟨gb114, 4, none⟩ = some (.int .u64 a0_4) := (blk_cell BK114.out 4).trans rfl
      have hfz15_0 := blk_frozen BK114.out 0
      have hfz15_1 := blk_frozen BK114.out 1
      have hfz15_2 := blk_frozen BK114.out 2
      have hfz15_3 := blk_frozen BK114.out 3
      have hfz15_4 := blk_frozen BK114.out 4
      have hnb16 := NB116_115.out
      have hnc16 := NB115_116.out
      have hcz17_0 : w8.cell? ⟨gb116, 0, none⟩ = some (.int .i64 0) := (blk_cell BK116.out 0).trans rfl
      have hcz17_1 : w8.cell? ⟨gb116, 1, none⟩ = some (.int .i64 0) := (blk_cell BK116.out 1).trans rfl
      have hcz17_2 : w8.cell? ⟨gb116, 2, none⟩ = some (.int .i64 0) := (blk_cell BK116.out 2).trans rfl
      have hcz17_3 : w8.cell? ⟨gb116, 3, none⟩ = some (.int .i64 0) := (blk_cell BK116.out 3).trans rfl
      have hcz17_4 : w8.cell? ⟨gb116, 4, none⟩ = some (.int .u64 0) := (blk_cell BK116.out 4).trans rfl
      have hfz17_0 := blk_frozen BK116.out 0
      have hfz17_1 := blk_frozen BK116.out 1
      have hfz17_2 := blk_frozen BK116.out 2
      have hfz17_3 := blk_frozen BK116.out 3
      have hfz17_4 := blk_frozen BK116.out 4
      go_wp2
      go_meet
      case rel => exact ⟨_, (a0_1), H', ⟨by first | omega | exact Nat.le_refl _⟩, ⟨by (with_reducible repeat (first | refine blk_drewN ?_ _ | refine blk_drew ?_ | refine blk_alloc ?_ _)); refine blk_far ?_ NB114_116.out _; (with_reducible repeat (first | refine blk_drewN ?_ _ | refine blk_drew ?_ | refine blk_alloc ?_ _)); refine blk_far ?_ NB114_116.out _; (with_reducible repeat (first | refine blk_drewN ?_ _ | refine blk_drew ?_ | refine blk_alloc ?_ _)); refine blk_far ?_ NB114_116.out _; (with_reducible repeat (first | refine blk_drewN ?_ _ | refine blk_drew ?_ | refine blk_alloc ?_ _)); refine blk_far ?_ NB114_116.out _; (with_reducible repeat (first | refine blk_drewN ?_ _ | refine blk_drew ?_ | refine blk_alloc ?_ _)); refine blk_far ?_ NB114_116.out _; (with_reducible repeat (first | refine blk_drewN ?_ _ | refine blk_drew ?_ | refine blk_alloc ?_ _)); refine blk_far ?_ NB114_116.out _; (with_reducible repeat (first | refine blk_drewN ?_ _ | refine blk_drew ?_ | refine blk_alloc ?_ _)); exact BK114.out⟩, ⟨by (with_reducible repeat (first | refine blk_drewN ?_ _ | refine blk_drew ?_ | refine blk_alloc ?_ _)); refine blk_far ?_ NB115_116.out _; (with_reducible repeat (first | refine blk_drewN ?_ _ | refine blk_drew ?_ | refine blk_alloc ?_ _)); refine blk_far ?_ NB115_116.out _; (with_reducible repeat (first | refine blk_drewN ?_ _ | refine blk_drew ?_ | refine blk_alloc ?_ _)); refine blk_far ?_ NB115_116.out _; (with_reducible repeat (first | refine blk_drewN ?_ _ | refine blk_drew ?_ | refine blk_alloc ?_ _)); refine blk_far ?_ NB115_116.out _; (with_reducible repeat (first | refine blk_drewN ?_ _ | refine blk_drew ?_ | refine blk_alloc ?_ _)); refine blk_far ?_ NB115_116.out _; (with_reducible repeat (first | refine blk_drewN ?_ _ | refine blk_drew ?_ | refine blk_alloc ?_ _)); refine blk_far ?_ NB115_116.out _; (with_reducible repeat (first | refine blk_drewN ?_ _ | refine blk_drew ?_ | refine blk_alloc ?_ _)); exact BK115.out⟩, ⟨by (with_reducible repeat (first | refine blk_drewN ?_ _ | refine blk_drew ?_ | refine blk_alloc ?_ _)); refine blk_put (cs := #[.int .i64 a0_0, .int .i64 0, .int .i64 0, .int .i64 0, .int .u64 0]) ?_ 1 _ rfl; (with_reducible repeat (first | refine blk_drewN ?_ _ | refine blk_drew ?_ | refine blk_alloc ?_ _)); refine blk_put (cs := #[.int .i64 a0_0, .int .i64 0, .int .i64 0, .int .i64 0, .int .u64 0]) ?_ 4 _ rfl; (with_reducible repeat (first | refine blk_drewN ?_ _ | refine blk_drew ?_ | refine blk_alloc ?_ _)); refine blk_put (cs := #[.int .i64 a0_0, .int .i64 0, .int .i64 0, .int .i64 0, .int .u64 0]) ?_ 3 _ rfl; (with_reducible repeat (first | refine blk_drewN ?_ _ | refine blk_drew ?_ | refine blk_alloc ?_ _)); refine blk_put (cs := #[.int .i64 a0_0, .int .i64 0, .int .i64 0, .int .i64 0, .int .u64 0]) ?_ 2 _ rfl; (with_reducible repeat (first | refine blk_drewN ?_ _ | refine blk_drew ?_ | refine blk_alloc ?_ _)); refine blk_put (cs := #[.int .i64 a0_0, .int .i64 0, .int .i64 0, .int .i64 0, .int .u64 0]) ?_ 1 _ rfl; (with_reducible repeat (first | refine blk_drewN ?_ _ | refine blk_drew ?_ | refine blk_alloc ?_ _)); refine blk_put (cs := #[.int .i64 0, .int .i64 0, .int .i64 0, .int .i64 0, .int .u64 0]) ?_ 0 _ rfl; (with_reducible repeat (first | refine blk_drewN ?_ _ | refine blk_drew ?_ | refine blk_alloc ?_ _)); exact BK116.out⟩, ⟨by repeat (first | (with_reducible first | exact HB.out | apply below_alloc | apply pw_below_drewN | apply below_drew1 | refine below_set ?_ GE114.out | refine below_set ?_ GE115.out | refine below_set ?_ GE116.out) | exact HB.out)⟩⟩
  case rest =>
    clear HC3
    try clear c1
    try clear c2
    try clear p2
    try clear c6
    try clear c9
    try clear c10
    try clear c12
    try clear c12b0
    try clear c12b1
    try clear c13
    try clear c14
    try clear c16
    try clear hcz11_0
    try clear hcz11_1
    try clear hcz11_2
    try clear hcz11_3
    try clear hcz11_4
    try clear hcz15_0
    try clear hcz15_1
    try clear hcz15_2
    try clear hcz15_3
    try clear hcz15_4
    try clear hcz17_0
    try clear hcz17_1
    try clear hcz17_2
    try clear hcz17_3
    try clear hcz17_4
    try clear hcz7_0
    try clear hcz7_1
    try clear hcz7_2
    try clear hcz7_3
    try clear hcz7_4
    try clear hfz11_0
    try clear hfz11_1
    try clear hfz11_2
    try clear hfz11_3
    try clear hfz11_4
    try clear hfz15_0
    try clear hfz15_1
    try clear hfz15_2
    try clear hfz15_3
    try clear hfz15_4
    try clear hfz17_0
    try clear hfz17_1
    try clear hfz17_2
    try clear hfz17_3
    try clear hfz17_4
    try clear hfz7_0
    try clear hfz7_1
    try clear hfz7_2
    try clear hfz7_3
    try clear hfz7_4
    obtain ⟨kq, x117001_2, HA, HJ2, BK114, BK115, BK116, HB⟩ := hcut
    cases kq with
    | zero => exact absurd HA.out (by simp [code_kept.j0])
    | succ kj2 =>
      have H := HA.out
      clear HA
      simp only [code_kept.j0] at H
      have HC18 := Aside0.mk H
      clear H
      go_upto_if 17 with (fail)
      go_cut [] (fun wc => ∃ (kq : Nat) (x117002_17 : Int), Aside0 (code_kept.j1 kq a1 a0_0 a0_1 a0_2 a0_3 a0_4 a0_0 x117001_2 x117002_17 0 0 = some (r1, r2, r3, r4, r5)) ∧ Aside0 (kq ≤ kj2) ∧ Aside0 (wc.heap[gb114]? = some (.cells #[.int .i64 a0_0, .int .i64 a0_1, .int .i64 a0_2, .int .i64 a0_3, .int .u64 a0_4] 30 (0, 0))) ∧ Aside0 (wc.heap[gb115]? = some (.cells #[.int .i64 0, .int .i64 0, .int .i64 0, .int .i64 0, .int .u64 0] 30 (0, 0))) ∧ Aside0 (wc.heap[gb116]? = some (.cells #[.int .i64 a0_0, .int .i64 x117001_2, .int .i64 x117002_17, .int .i64 0, .int .u64 0] 30 (0, 0))) ∧ Aside0 (Below w.heap.size w wc))
      case first =>
        have H := HC18.out
        clear HC18
        by_cases c19 : (Go.bits .and .i64 a1 2) = 0
        · rw [if_pos c19] at H
          have c19b0 : ((Go.bits .and .i64 a1 2) == 0) = true := beq_iff_eq.mpr c19
          have c19b1 : ((Go.bits .and .i64 a1 2) != 0) = false := bne_eq_false_iff_eq.mpr c19
          clear c19
          (first | rw [c19b0] | (simp only [i64_w, i32_w]; rw [c19b0]) | skip)
          have H' := Aside0.mk H
          clear H
          go_wp2
          go_meet
          case rel => exact ⟨_, (0), H', ⟨by have := HJ2.out; first | omega | exact Nat.le_refl _⟩, ⟨by (with_reducible repeat (first | refine blk_drewN ?_ _ | refine blk_drew ?_ | refine blk_alloc ?_ _)); exact BK114.out⟩, ⟨by (with_reducible repeat (first | refine blk_drewN ?_ _ | refine blk_drew ?_ | refine blk_alloc ?_ _)); exact BK115.out⟩, ⟨by (with_reducible repeat (first | refine blk_drewN ?_ _ | refine blk_drew ?_ | refine blk_alloc ?_ _)); exact BK116.out⟩, ⟨by repeat (first | (with_reducible first | exact HB.out | apply below_alloc | apply pw_below_drewN | apply below_drew1 | refine below_set ?_ GE114.out | refine below_set ?_ GE115.out | refine below_set ?_ GE116.out) | exact HB.out)⟩⟩
        · rw [if_neg c19] at H
          have c19b0 : ((Go.bits .and .i64 a1 2) == 0) = false := beq_eq_false_iff_ne.mpr c19
          have c19b1 : ((Go.bits .and .i64 a1 2) != 0) = true := bne_iff_ne.mpr c19
          (first | rw [c19b0] | (simp only [i64_w, i32_w]; rw [c19b0]) | skip)
          have H' := Aside0.mk H
          clear H
          have hnb20 := NB114_115.out
          have hnc20 := NB115_114.out
          have hnb21 := NB114_116.out
          have hnc21 := NB116_114.out
          have hcz22_0 : wc.cell? ⟨gb114, 0, none⟩ = some (.int .i64 a0_0) := (blk_cell BK114.out 0).trans rfl
          have hcz22_1 : wc.cell? ⟨gb114, 1, none⟩ = some (.int .i64 a0_1) := (blk_cell BK114.out 1).trans rfl
          have hcz22_2 : wc.cell? ⟨gb114, 2, none⟩ = some (.int .i64 a0_2) := (blk_cell BK114.out 2).trans rfl
          have hcz22_3 : wc.cell? ⟨gb114, 3, none⟩ = some (.int .i64 a0_3) := (blk_cell BK114.out 3).trans rfl
          have hcz22_4 : wc.cell? ⟨gb114, 4, none⟩ = some (.int .u64 a0_4) := (blk_cell BK114.out 4).trans rfl
          have hfz22_0 := blk_frozen BK114.out 0
          have hfz22_1 := blk_frozen BK114.out 1
          have hfz22_2 := blk_frozen BK114.out 2
          have hfz22_3 := blk_frozen BK114.out 3
          have hfz22_4 := blk_frozen BK114.out 4
          have hnb23 := NB116_115.out
          have hnc23 := NB115_116.out
          have hcz24_0 : wc.cell? ⟨gb116, 0, none⟩ = some (.int .i64 a0_0) := (blk_cell BK116.out 0).trans rfl
          have hcz24_1 : wc.cell? ⟨gb116, 1, none⟩ = some (.int .i64 x117001_2) := (blk_cell BK116.out 1).trans rfl
          have hcz24_2 : wc.cell? ⟨gb116, 2, none⟩ = some (.int .i64 0) := (blk_cell BK116.out 2).trans rfl
          have hcz24_3 : wc.cell? ⟨gb116, 3, none⟩ = some (.int .i64 0) := (blk_cell BK116.out 3).trans rfl
          have hcz24_4 : wc.cell? ⟨gb116, 4, none⟩ = some (.int .u64 0) := (blk_cell BK116.out 4).trans rfl
          have hfz24_0 := blk_frozen BK116.out 0
          have hfz24_1 := blk_frozen BK116.out 1
          have hfz24_2 := blk_frozen BK116.out 2
          have hfz24_3 := blk_frozen BK116.out 3
          have hfz24_4 := blk_frozen BK116.out 4
          go_wp2
          go_meet
          case rel => exact ⟨_, (a0_2), H', ⟨by have := HJ2.out; first | omega | exact Nat.le_refl _⟩, ⟨by (with_reducible repeat (first | refine blk_drewN ?_ _ | refine blk_drew ?_ | refine blk_alloc ?_ _)); refine blk_far ?_ NB114_116.out _; (with_reducible repeat (first | refine blk_drewN ?_ _ | refine blk_drew ?_ | refine blk_alloc ?_ _)); exact BK114.out⟩, ⟨by (with_reducible repeat (first | refine blk_drewN ?_ _ | refine blk_drew ?_ | refine blk_alloc ?_ _)); refine blk_far ?_ NB115_116.out _; (with_reducible repeat (first | refine blk_drewN ?_ _ | refine blk_drew ?_ | refine blk_alloc ?_ _)); exact BK115.out⟩, ⟨by (with_reducible repeat (first | refine blk_drewN ?_ _ | refine blk_drew ?_ | refine blk_alloc ?_ _)); refine blk_put (cs := #[.int .i64 a0_0, .int .i64 x117001_2, .int .i64 0, .int .i64 0, .int .u64 0]) ?_ 2 _ rfl; (with_reducible repeat (first | refine blk_drewN ?_ _ | refine blk_drew ?_ | refine blk_alloc ?_ _)); exact BK116.out⟩, ⟨by repeat (first | (with_reducible first | exact HB.out | apply below_alloc | apply pw_below_drewN | apply below_drew1 | refine below_set ?_ GE114.out | refine below_set ?_ GE115.out | refine below_set ?_ GE116.out) | exact HB.out)⟩⟩
      case rest =>
        clear HC18
        try clear c1
        try clear c2
        try clear p2
        try clear c6
        try clear c9
        try clear c10
        try clear c12
        try clear c12b0
        try clear c12b1
        try clear c13
        try clear c14
        try clear c16
        try clear c19
        try clear c19b0
        try clear c19b1
        try clear c20
        try clear c21
        try clear c23
        try clear c24
        try clear hcz11_0
        try clear hcz11_1
        try clear hcz11_2
        try clear hcz11_3
        try clear hcz11_4
        try clear hcz15_0
        try clear hcz15_1
        try clear hcz15_2
        try clear hcz15_3
        try clear hcz15_4
        try clear hcz17_0
        try clear hcz17_1
        try clear hcz17_2
        try clear hcz17_3
        try clear hcz17_4
        try clear hcz22_0
        try clear hcz22_1
        try clear hcz22_2
        try clear hcz22_3
        try clear hcz22_4
        try clear hcz24_0
        try clear hcz24_1
        try clear hcz24_2
        try clear hcz24_3
        try clear hcz24_4
        try clear hcz7_0
        try clear hcz7_1
        try clear hcz7_2
        try clear hcz7_3
        try clear hcz7_4
        try clear hfz11_0
        try clear hfz11_1
        try clear hfz11_2
        try clear hfz11_3
        try clear hfz11_4
        try clear hfz15_0
        try clear hfz15_1
        try clear hfz15_2
        try clear hfz15_3
        try clear hfz15_4
        try clear hfz17_0
        try clear hfz17_1
        try clear hfz17_2
        try clear hfz17_3
        try clear hfz17_4
        try clear hfz22_0
        try clear hfz22_1
        try clear hfz22_2
        try clear hfz22_3
        try clear hfz22_4
        try clear hfz24_0
        try clear hfz24_1
        try clear hfz24_2
        try clear hfz24_3
        try clear hfz24_4
        try clear hfz7_0
        try clear hfz7_1
        try clear hfz7_2
        try clear hfz7_3
        try clear hfz7_4
        try clear p2
        obtain ⟨kq, x117002_17, HA, HJ17, BK114, BK115, BK116, HB⟩ := hcut
        cases kq with
        | zero => exact absurd HA.out (by simp [code_kept.j1])
        | succ kj17 =>
          have H := HA.out
          clear HA
          simp only [code_kept.j1] at H
          by_cases c25 : (Go.bits .and .i64 a1 12) = 0
          · rw [if_pos c25] at H
            have c25b0 : ((Go.bits .and .i64 a1 12) == 0) = true := beq_iff_eq.mpr c25
            have c25b1 : ((Go.bits .and .i64 a1 12) != 0) = false := bne_eq_false_iff_eq.mpr c25
            clear c25
            by_cases c26 : (Go.bits .and .i64 a1 16) = 0
            · rw [if_pos c26] at H
              have c26b0 : ((Go.bits .and .i64 a1 16) == 0) = true := beq_iff_eq.mpr c26
              have c26b1 : ((Go.bits .and .i64 a1 16) != 0) = false := bne_eq_false_iff_eq.mpr c26
              clear c26
              simp only [Option.some.injEq, Prod.mk.injEq] at H
              obtain ⟨rfl, rfl, rfl, rfl, rfl⟩ := H
              have hnb27 := NB116_114.out
              have hnc27 := NB114_116.out
              have hnb28 := NB116_115.out
              have hnc28 := NB115_116.out
              have hcz29_0 : wc.cell? ⟨gb116, 0, none⟩ = some (.int .i64 a0_0) := (blk_cell BK116.out 0).trans rfl
              have hcz29_1 : wc.cell? ⟨gb116, 1, none⟩ = some (.int .i64 x117001_2) := (blk_cell BK116.out 1).trans rfl
              have hcz29_2 : wc.cell? ⟨gb116, 2, none⟩ = some (.int .i64 x117002_17) := (blk_cell BK116.out 2).trans rfl
              have hcz29_3 : wc.cell? ⟨gb116, 3, none⟩ = some (.int .i64 0) := (blk_cell BK116.out 3).trans rfl
              have hcz29_4 : wc.cell? ⟨gb116, 4, none⟩ = some (.int .u64 0) := (blk_cell BK116.out 4).trans rfl
              have hfz29_0 := blk_frozen BK116.out 0
              have hfz29_1 := blk_frozen BK116.out 1
              have hfz29_2 := blk_frozen BK116.out 2
              have hfz29_3 := blk_frozen BK116.out 3
              have hfz29_4 := blk_frozen BK116.out 4
              have hnb30 := NB115_114.out
              have hnc30 := NB114_115.out
              have hcz31_0 : wc.cell? ⟨gb115, 0, none⟩ = some (.int .i64 0) := (blk_cell BK115.out 0).trans rfl
              have hcz31_1 : wc.cell? ⟨gb115, 1, none⟩ = some (.int .i64 0) := (blk_cell BK115.out 1).trans rfl
              have hcz31_2 : wc.cell? ⟨gb115, 2, none⟩ = some (.int .i64 0) := (blk_cell BK115.out 2).trans rfl
              have hcz31_3 : wc.cell? ⟨gb115, 3, none⟩ = some (.int .i64 0) := (blk_cell BK115.out 3).trans rfl
              have hcz31_4 : wc.cell? ⟨gb115, 4, none⟩ = some (.int .u64 0) := (blk_cell BK115.out 4).trans rfl
              have hfz31_0 := blk_frozen BK115.out 0
              have hfz31_1 := blk_frozen BK115.out 1
              have hfz31_2 := blk_frozen BK115.out 2
              have hfz31_3 := blk_frozen BK115.out 3
              have hfz31_4 := blk_frozen BK115.out 4
              go_wp2
              refine bodyPost_ret (results_cell_row rfl _ _ gb115 30 #[.int .i64 a0_0, .int .i64 x117001_2, .int .i64 x117002_17, .int .i64 0, .int .u64 0] (0, 0) _ rfl (by (with_reducible repeat (first | refine blk_drewN ?_ _ | refine blk_drew ?_ | refine blk_alloc ?_ _)); refine blk_put (cs := #[.int .i64 a0_0, .int .i64 x117001_2, .int .i64 x117002_17, .int .i64 0, .int .u64 0]) ?_ 4 _ rfl; (with_reducible repeat (first | refine blk_drewN ?_ _ | refine blk_drew ?_ | refine blk_alloc ?_ _)); refine blk_put (cs := #[.int .i64 a0_0, .int .i64 x117001_2, .int .i64 x117002_17, .int .i64 0, .int .u64 0]) ?_ 3 _ rfl; (with_reducible repeat (first | refine blk_drewN ?_ _ | refine blk_drew ?_ | refine blk_alloc ?_ _)); refine blk_put (cs := #[.int .i64 a0_0, .int .i64 x117001_2, .int .i64 0, .int .i64 0, .int .u64 0]) ?_ 2 _ rfl; (with_reducible repeat (first | refine blk_drewN ?_ _ | refine blk_drew ?_ | refine blk_alloc ?_ _)); refine blk_put (cs := #[.int .i64 a0_0, .int .i64 0, .int .i64 0, .int .i64 0, .int .u64 0]) ?_ 1 _ rfl; (with_reducible repeat (first | refine blk_drewN ?_ _ | refine blk_drew ?_ | refine blk_alloc ?_ _)); refine blk_put (cs := #[.int .i64 0, .int .i64 0, .int .i64 0, .int .i64 0, .int .u64 0]) ?_ 0 _ rfl; (with_reducible repeat (first | refine blk_drewN ?_ _ | refine blk_drew ?_ | refine blk_alloc ?_ _)); exact BK115.out) Try.underlying30 rfl (by kernel_rfl)) rfl ?_
              exact ⟨by first | rfl | (simp [errW_none, errW_some] <;> rfl) | (simp [*, errW_none, errW_some] <;> rfl), by repeat (first | (with_reducible first | exact HB.out | apply below_alloc | apply pw_below_drewN | apply below_drew1 | refine below_set ?_ GE114.out | refine below_set ?_ GE115.out | refine below_set ?_ GE116.out) | exact HB.out)⟩
            · rw [if_neg c26] at H
              have c26b0 : ((Go.bits .and .i64 a1 16) == 0) = false := beq_eq_false_iff_ne.mpr c26
              have c26b1 : ((Go.bits .and .i64 a1 16) != 0) = true := bne_iff_ne.mpr c26
              simp only [Option.some.injEq, Prod.mk.injEq] at H
              obtain ⟨rfl, rfl, rfl, rfl, rfl⟩ := H
              have hnb32 := NB114_115.out
              have hnc32 := NB115_114.out
              have hnb33 := NB114_116.out
              have hnc33 := NB116_114.out
              have hcz34_0 : wc.cell? ⟨gb114, 0, none⟩ = some (.int .i64 a0_0) := (blk_cell BK114.out 0).trans rfl
              have hcz34_1 : wc.cell? ⟨gb114, 1, none⟩ = some (.int .i64 a0_1) := (blk_cell BK114.out 1).trans rfl
              have hcz34_2 : wc.cell? ⟨gb114, 2, none⟩ = some (.int .i64 a0_2) := (blk_cell BK114.out 2).trans rfl
              have hcz34_3 : wc.cell? ⟨gb114, 3, none⟩ = some (.int .i64 a0_3) := (blk_cell BK114.out 3).trans rfl
              have hcz34_4 : wc.cell? ⟨gb114, 4, none⟩ = some (.int .u64 a0_4) := (blk_cell BK114.out 4).trans rfl
              have hfz34_0 := blk_frozen BK114.out 0
              have hfz34_1 := blk_frozen BK114.out 1
              have hfz34_2 := blk_frozen BK114.out 2
              have hfz34_3 := blk_frozen BK114.out 3
              have hfz34_4 := blk_frozen BK114.out 4
              have hnb35 := NB116_115.out
              have hnc35 := NB115_116.out
              have hcz36_0 : wc.cell? ⟨gb116, 0, none⟩ = some (.int .i64 a0_0) := (blk_cell BK116.out 0).trans rfl
              have hcz36_1 : wc.cell? ⟨gb116, 1, none⟩ = some (.int .i64 x117001_2) := (blk_cell BK116.out 1).trans rfl
              have hcz36_2 : wc.cell? ⟨gb116, 2, none⟩ = some (.int .i64 x117002_17) := (blk_cell BK116.out 2).trans rfl
              have hcz36_3 : wc.cell? ⟨gb116, 3, none⟩ = some (.int .i64 0) := (blk_cell BK116.out 3).trans rfl
              have hcz36_4 : wc.cell? ⟨gb116, 4, none⟩ = some (.int .u64 0) := (blk_cell BK116.out 4).trans rfl
              have hfz36_0 := blk_frozen BK116.out 0
              have hfz36_1 := blk_frozen BK116.out 1
              have hfz36_2 := blk_frozen BK116.out 2
              have hfz36_3 := blk_frozen BK116.out 3
              have hfz36_4 := blk_frozen BK116.out 4
              have hcz37_0 : wc.cell? ⟨gb115, 0, none⟩ = some (.int .i64 0) := (blk_cell BK115.out 0).trans rfl
              have hcz37_1 : wc.cell? ⟨gb115, 1, none⟩ = some (.int .i64 0) := (blk_cell BK115.out 1).trans rfl
              have hcz37_2 : wc.cell? ⟨gb115, 2, none⟩ = some (.int .i64 0) := (blk_cell BK115.out 2).trans rfl
              have hcz37_3 : wc.cell? ⟨gb115, 3, none⟩ = some (.int .i64 0) := (blk_cell BK115.out 3).trans rfl
              have hcz37_4 : wc.cell? ⟨gb115, 4, none⟩ = some (.int .u64 0) := (blk_cell BK115.out 4).trans rfl
              have hfz37_0 := blk_frozen BK115.out 0
              have hfz37_1 := blk_frozen BK115.out 1
              have hfz37_2 := blk_frozen BK115.out 2
              have hfz37_3 := blk_frozen BK115.out 3
              have hfz37_4 := blk_frozen BK115.out 4
              go_wp2
              refine bodyPost_ret (results_cell_row rfl _ _ gb115 30 #[.int .i64 a0_0, .int .i64 x117001_2, .int .i64 x117002_17, .int .i64 0, .int .u64 a0_4] (0, 0) _ rfl (by (with_reducible repeat (first | refine blk_drewN ?_ _ | refine blk_drew ?_ | refine blk_alloc ?_ _)); refine blk_put (cs := #[.int .i64 a0_0, .int .i64 x117001_2, .int .i64 x117002_17, .int .i64 0, .int .u64 0]) ?_ 4 _ rfl; (with_reducible repeat (first | refine blk_drewN ?_ _ | refine blk_drew ?_ | refine blk_alloc ?_ _)); refine blk_put (cs := #[.int .i64 a0_0, .int .i64 x117001_2, .int .i64 x117002_17, .int .i64 0, .int .u64 0]) ?_ 3 _ rfl; (with_reducible repeat (first | refine blk_drewN ?_ _ | refine blk_drew ?_ | refine blk_alloc ?_ _)); refine blk_put (cs := #[.int .i64 a0_0, .int .i64 x117001_2, .int .i64 0, .int .i64 0, .int .u64 0]) ?_ 2 _ rfl; (with_reducible repeat (first | refine blk_drewN ?_ _ | refine blk_drew ?_ | refine blk_alloc ?_ _)); refine blk_put (cs := #[.int .i64 a0_0, .int .i64 0, .int .i64 0, .int .i64 0, .int .u64 0]) ?_ 1 _ rfl; (with_reducible repeat (first | refine blk_drewN ?_ _ | refine blk_drew ?_ | refine blk_alloc ?_ _)); refine blk_put (cs := #[.int .i64 0, .int .i64 0, .int .i64 0, .int .i64 0, .int .u64 0]) ?_ 0 _ rfl; (with_reducible repeat (first | refine blk_drewN ?_ _ | refine blk_drew ?_ | refine blk_alloc ?_ _)); refine blk_far ?_ NB115_116.out _; (with_reducible repeat (first | refine blk_drewN ?_ _ | refine blk_drew ?_ | refine blk_alloc ?_ _)); exact BK115.out) Try.underlying30 rfl (by kernel_rfl)) rfl ?_
              exact ⟨by first | rfl | (simp [errW_none, errW_some] <;> rfl) | (simp [*, errW_none, errW_some] <;> rfl), by repeat (first | (with_reducible first | exact HB.out | apply below_alloc | apply pw_below_drewN | apply below_drew1 | refine below_set ?_ GE114.out | refine below_set ?_ GE115.out | refine below_set ?_ GE116.out) | exact HB.out)⟩
          · rw [if_neg c25] at H
            have c25b0 : ((Go.bits .and .i64 a1 12) == 0) = false := beq_eq_false_iff_ne.mpr c25
            have c25b1 : ((Go.bits .and .i64 a1 12) != 0) = true := bne_iff_ne.mpr c25
            by_cases c38 : (Go.bits .and .i64 a1 16) = 0
            · rw [if_pos c38] at H
              have c38b0 : ((Go.bits .and .i64 a1 16) == 0) = true := beq_iff_eq.mpr c38
              have c38b1 : ((Go.bits .and .i64 a1 16) != 0) = false := bne_eq_false_iff_eq.mpr c38
              clear c38
              simp only [Option.some.injEq, Prod.mk.injEq] at H
              obtain ⟨rfl, rfl, rfl, rfl, rfl⟩ := H
              have hnb39 := NB114_115.out
              have hnc39 := NB115_114.out
              have hnb40 := NB114_116.out
              have hnc40 := NB116_114.out
              have hcz41_0 : wc.cell? ⟨gb114, 0, none⟩ = some (.int .i64 a0_0) := (blk_cell BK114.out 0).trans rfl
              have hcz41_1 : wc.cell? ⟨gb114, 1, none⟩ = some (.int .i64 a0_1) := (blk_cell BK114.out 1).trans rfl
              have hcz41_2 : wc.cell? ⟨gb114, 2, none⟩ = some (.int .i64 a0_2) := (blk_cell BK114.out 2).trans rfl
              have hcz41_3 : wc.cell? ⟨gb114, 3, none⟩ = some (.int .i64 a0_3) := (blk_cell BK114.out 3).trans rfl
              have hcz41_4 : wc.cell? ⟨gb114, 4, none⟩ = some (.int .u64 a0_4) := (blk_cell BK114.out 4).trans rfl
              have hfz41_0 := blk_frozen BK114.out 0
              have hfz41_1 := blk_frozen BK114.out 1
              have hfz41_2 := blk_frozen BK114.out 2
              have hfz41_3 := blk_frozen BK114.out 3
              have hfz41_4 := blk_frozen BK114.out 4
              have hnb42 := NB116_115.out
              have hnc42 := NB115_116.out
              have hcz43_0 : wc.cell? ⟨gb116, 0, none⟩ = some (.int .i64 a0_0) := (blk_cell BK116.out 0).trans rfl
              have hcz43_1 : wc.cell? ⟨gb116, 1, none⟩ = some (.int .i64 x117001_2) := (blk_cell BK116.out 1).trans rfl
              have hcz43_2 : wc.cell? ⟨gb116, 2, none⟩ = some (.int .i64 x117002_17) := (blk_cell BK116.out 2).trans rfl
              have hcz43_3 : wc.cell? ⟨gb116, 3, none⟩ = some (.int .i64 0) := (blk_cell BK116.out 3).trans rfl
              have hcz43_4 : wc.cell? ⟨gb116, 4, none⟩ = some (.int .u64 0) := (blk_cell BK116.out 4).trans rfl
              have hfz43_0 := blk_frozen BK116.out 0
              have hfz43_1 := blk_frozen BK116.out 1
              have hfz43_2 := blk_frozen BK116.out 2
              have hfz43_3 := blk_frozen BK116.out 3
              have hfz43_4 := blk_frozen BK116.out 4
              have hcz44_0 : wc.cell? ⟨gb115, 0, none⟩ = some (.int .i64 0) := (blk_cell BK115.out 0).trans rfl
              have hcz44_1 : wc.cell? ⟨gb115, 1, none⟩ = some (.int .i64 0) := (blk_cell BK115.out 1).trans rfl
              have hcz44_2 : wc.cell? ⟨gb115, 2, none⟩ = some (.int .i64 0) := (blk_cell BK115.out 2).trans rfl
              have hcz44_3 : wc.cell? ⟨gb115, 3, none⟩ = some (.int .i64 0) := (blk_cell BK115.out 3).trans rfl
              have hcz44_4 : wc.cell? ⟨gb115, 4, none⟩ = some (.int .u64 0) := (blk_cell BK115.out 4).trans rfl
              have hfz44_0 := blk_frozen BK115.out 0
              have hfz44_1 := blk_frozen BK115.out 1
              have hfz44_2 := blk_frozen BK115.out 2
              have hfz44_3 := blk_frozen BK115.out 3
              have hfz44_4 := blk_frozen BK115.out 4
              go_wp2
              refine bodyPost_ret (results_cell_row rfl _ _ gb115 30 #[.int .i64 a0_0, .int .i64 x117001_2, .int .i64 x117002_17, .int .i64 a0_3, .int .u64 0] (0, 0) _ rfl (by (with_reducible repeat (first | refine blk_drewN ?_ _ | refine blk_drew ?_ | refine blk_alloc ?_ _)); refine blk_put (cs := #[.int .i64 a0_0, .int .i64 x117001_2, .int .i64 x117002_17, .int .i64 a0_3, .int .u64 0]) ?_ 4 _ rfl; (with_reducible repeat (first | refine blk_drewN ?_ _ | refine blk_drew ?_ | refine blk_alloc ?_ _)); refine blk_put (cs := #[.int .i64 a0_0, .int .i64 x117001_2, .int .i64 x117002_17, .int .i64 0, .int .u64 0]) ?_ 3 _ rfl; (with_reducible repeat (first | refine blk_drewN ?_ _ | refine blk_drew ?_ | refine blk_alloc ?_ _)); refine blk_put (cs := #[.int .i64 a0_0, .int .i64 x117001_2, .int .i64 0, .int .i64 0, .int .u64 0]) ?_ 2 _ rfl; (with_reducible repeat (first | refine blk_drewN ?_ _ | refine blk_drew ?_ | refine blk_alloc ?_ _)); refine blk_put (cs := #[.int .i64 a0_0, .int .i64 0, .int .i64 0, .int .i64 0, .int .u64 0]) ?_ 1 _ rfl; (with_reducible repeat (first | refine blk_drewN ?_ _ | refine blk_drew ?_ | refine blk_alloc ?_ _)); refine blk_put (cs := #[.int .i64 0, .int .i64 0, .int .i64 0, .int .i64 0, .int .u64 0]) ?_ 0 _ rfl; (with_reducible repeat (first | refine blk_drewN ?_ _ | refine blk_drew ?_ | refine blk_alloc ?_ _)); refine blk_far ?_ NB115_116.out _; (with_reducible repeat (first | refine blk_drewN ?_ _ | refine blk_drew ?_ | refine blk_alloc ?_ _)); exact BK115.out) Try.underlying30 rfl (by kernel_rfl)) rfl ?_
              exact ⟨by first | rfl | (simp [errW_none, errW_some] <;> rfl) | (simp [*, errW_none, errW_some] <;> rfl), by repeat (first | (with_reducible first | exact HB.out | apply below_alloc | apply pw_below_drewN | apply below_drew1 | refine below_set ?_ GE114.out | refine below_set ?_ GE115.out | refine below_set ?_ GE116.out) | exact HB.out)⟩
            · rw [if_neg c38] at H
              have c38b0 : ((Go.bits .and .i64 a1 16) == 0) = false := beq_eq_false_iff_ne.mpr c38
              have c38b1 : ((Go.bits .and .i64 a1 16) != 0) = true := bne_iff_ne.mpr c38
              simp only [Option.some.injEq, Prod.mk.injEq] at H
              obtain ⟨rfl, rfl, rfl, rfl, rfl⟩ := H
              have hnb45 := NB114_115.out
              have hnc45 := NB115_114.out
              have hnb46 := NB114_116.out
              have hnc46 := NB116_114.out
              have hcz47_0 : wc.cell? ⟨gb114, 0, none⟩ = some (.int .i64 a0_0) := (blk_cell BK114.out 0).trans rfl
              have hcz47_1 : wc.cell? ⟨gb114, 1, none⟩ = some (.int .i64 a0_1) := (blk_cell BK114.out 1).trans rfl
              have hcz47_2 : wc.cell? ⟨gb114, 2, none⟩ = some (.int .i64 a0_2) := (blk_cell BK114.out 2).trans rfl
              have hcz47_3 : wc.cell? ⟨gb114, 3, none⟩ = some (.int .i64 a0_3) := (blk_cell BK114.out 3).trans rfl
              have hcz47_4 : wc.cell? ⟨gb114, 4, none⟩ = some (.int .u64 a0_4) := (blk_cell BK114.out 4).trans rfl
              have hfz47_0 := blk_frozen BK114.out 0
              have hfz47_1 := blk_frozen BK114.out 1
              have hfz47_2 := blk_frozen BK114.out 2
              have hfz47_3 := blk_frozen BK114.out 3
              have hfz47_4 := blk_frozen BK114.out 4
              have hnb48 := NB116_115.out
              have hnc48 := NB115_116.out
              have hcz49_0 : wc.cell? ⟨gb116, 0, none⟩ = some (.int .i64 a0_0) := (blk_cell BK116.out 0).trans rfl
              have hcz49_1 : wc.cell? ⟨gb116, 1, none⟩ = some (.int .i64 x117001_2) := (blk_cell BK116.out 1).trans rfl
              have hcz49_2 : wc.cell? ⟨gb116, 2, none⟩ = some (.int .i64 x117002_17) := (blk_cell BK116.out 2).trans rfl
              have hcz49_3 : wc.cell? ⟨gb116, 3, none⟩ = some (.int .i64 0) := (blk_cell BK116.out 3).trans rfl
              have hcz49_4 : wc.cell? ⟨gb116, 4, none⟩ = some (.int .u64 0) := (blk_cell BK116.out 4).trans rfl
              have hfz49_0 := blk_frozen BK116.out 0
              have hfz49_1 := blk_frozen BK116.out 1
              have hfz49_2 := blk_frozen BK116.out 2
              have hfz49_3 := blk_frozen BK116.out 3
              have hfz49_4 := blk_frozen BK116.out 4
              have hcz50_0 : wc.cell? ⟨gb115, 0, none⟩ = some (.int .i64 0) := (blk_cell BK115.out 0).trans rfl
              have hcz50_1 : wc.cell? ⟨gb115, 1, none⟩ = some (.int .i64 0) := (blk_cell BK115.out 1).trans rfl
              have hcz50_2 : wc.cell? ⟨gb115, 2, none⟩ = some (.int .i64 0) := (blk_cell BK115.out 2).trans rfl
              have hcz50_3 : wc.cell? ⟨gb115, 3, none⟩ = some (.int .i64 0) := (blk_cell BK115.out 3).trans rfl
              have hcz50_4 : wc.cell? ⟨gb115, 4, none⟩ = some (.int .u64 0) := (blk_cell BK115.out 4).trans rfl
              have hfz50_0 := blk_frozen BK115.out 0
              have hfz50_1 := blk_frozen BK115.out 1
              have hfz50_2 := blk_frozen BK115.out 2
              have hfz50_3 := blk_frozen BK115.out 3
              have hfz50_4 := blk_frozen BK115.out 4
              go_wp2
              refine bodyPost_ret (results_cell_row rfl _ _ gb115 30 #[.int .i64 a0_0, .int .i64 x117001_2, .int .i64 x117002_17, .int .i64 a0_3, .int .u64 a0_4] (0, 0) _ rfl (by (with_reducible repeat (first | refine blk_drewN ?_ _ | refine blk_drew ?_ | refine blk_alloc ?_ _)); refine blk_put (cs := #[.int .i64 a0_0, .int .i64 x117001_2, .int .i64 x117002_17, .int .i64 a0_3, .int .u64 0]) ?_ 4 _ rfl; (with_reducible repeat (first | refine blk_drewN ?_ _ | refine blk_drew ?_ | refine blk_alloc ?_ _)); refine blk_put (cs := #[.int .i64 a0_0, .int .i64 x117001_2, .int .i64 x117002_17, .int .i64 0, .int .u64 0]) ?_ 3 _ rfl; (with_reducible repeat (first | refine blk_drewN ?_ _ | refine blk_drew ?_ | refine blk_alloc ?_ _)); refine blk_put (cs := #[.int .i64 a0_0, .int .i64 x117001_2, .int .i64 0, .int .i64 0, .int .u64 0]) ?_ 2 _ rfl; (with_reducible repeat (first | refine blk_drewN ?_ _ | refine blk_drew ?_ | refine blk_alloc ?_ _)); refine blk_put (cs := #[.int .i64 a0_0, .int .i64 0, .int .i64 0, .int .i64 0, .int .u64 0]) ?_ 1 _ rfl; (with_reducible repeat (first | refine blk_drewN ?_ _ | refine blk_drew ?_ | refine blk_alloc ?_ _)); refine blk_put (cs := #[.int .i64 0, .int .i64 0, .int .i64 0, .int .i64 0, .int .u64 0]) ?_ 0 _ rfl; (with_reducible repeat (first | refine blk_drewN ?_ _ | refine blk_drew ?_ | refine blk_alloc ?_ _)); refine blk_far ?_ NB115_116.out _; (with_reducible repeat (first | refine blk_drewN ?_ _ | refine blk_drew ?_ | refine blk_alloc ?_ _)); refine blk_far ?_ NB115_116.out _; (with_reducible repeat (first | refine blk_drewN ?_ _ | refine blk_drew ?_ | refine blk_alloc ?_ _)); exact BK115.out) Try.underlying30 rfl (by kernel_rfl)) rfl ?_
              exact ⟨by first | rfl | (simp [errW_none, errW_some] <;> rfl) | (simp [*, errW_none, errW_some] <;> rfl), by repeat (first | (with_reducible first | exact HB.out | apply below_alloc | apply pw_below_drewN | apply below_drew1 | refine below_set ?_ GE114.out | refine below_set ?_ GE115.out | refine below_set ?_ GE116.out) | exact HB.out)⟩

/-! ### code_register: function 25 -/
def code_register.f (a0 : Int) : Option (Bool) := if a0 ≥ 0 then (some (decide (a0 < 8))) else (some false)
set_option maxHeartbeats 8000000 in
set_option maxRecDepth 100000 in
theorem code_register.calls (a0 : Int) (r : Bool) (w : World) (h : code_register.f a0 = some r) :
    Calls Try.prog 25 #[.int .i64 a0] w fun e w' => e = .returned (.bool r) ∧ Drawn0 w w' := by
  have H : (if a0 ≥ 0 then (some (decide (a0 < 8))) else (some false)) = some r := h
  clear h
  by_cases c2 : a0 ≥ 0
  · rw [if_pos c2] at H
    have c2b0 : decide (0 ≤ a0) = true := decide_eq_true c2
    clear c2
    obtain rfl := Option.some.inj H
    go_enter Try.func25, Try.ntmps25
    go_wp2
    go_ret
    exact ⟨by first | rfl | (simp; done) | (simp [*]; done), by repeat (first | exact Drawn0.refl _ | apply Drawn0.step)⟩
  · rw [if_neg c2] at H
    have c2b0 : decide (0 ≤ a0) = false := decide_eq_false c2
    clear c2
    obtain rfl := Option.some.inj H
    go_enter Try.func25, Try.ntmps25
    go_wp2
    go_ret
    exact ⟨by first | rfl | (simp; done) | (simp [*]; done), by repeat (first | exact Drawn0.refl _ | apply Drawn0.step)⟩

end Go.Proofs.Ytmgfmabmliphfaa.PCodeNames
