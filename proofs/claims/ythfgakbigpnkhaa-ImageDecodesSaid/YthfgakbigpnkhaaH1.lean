/- ImageDecodes: the plain law. -/
import Derived.Test.YthfgakbigpnkhaaC6
open Go Go.Proofs Go.RowKit
namespace Go.Proofs.Ythfgakbigpnkhaa.Sx.C3
set_option linter.unusedVariables false
set_option linter.unusedSimpArgs false
theorem idec_data {b : List Int} (hb : Bytes b) : Bytes (idec_s b).1.data := by
  unfold idec_s
  refine bifP (P := fun r : Img × Int × Int => Bytes r.1.data) (fun _ => bytes_nil) (fun _ => ?_)
  refine bifP (P := fun r : Img × Int × Int => Bytes r.1.data) (fun _ => bytes_nil) (fun _ => ?_)
  refine bifP (P := fun r : Img × Int × Int => Bytes r.1.data) (fun _ => bytes_nil) (fun _ => ?_)
  exact bifP (P := fun r : Img × Int × Int => Bytes r.1.data) (fun _ => bytes_nil) (fun _ => dec_data hb)
theorem lDec_t (b : List Int) (hb : Bytes b) : lDec_s b = true := by
  unfold lDec_s
  refine bifP (P := fun r : Bool => r = true) (fun _ => rfl) (fun h => ?_)
  have h := of_decide_eq_false h
  have h0 : b.length < 2 ^ 40 := by omega
  rw [List.nil_append, dec_eq hb h0, rsame_eq, (isame_iff (idec_data hb) (idec_data hb)).2 rfl]
  simp only [Bool.not_true, cond_false, bne_self_eq_false]
  refine bifP (P := fun r : Bool => r = true) (fun _ => rfl) (fun e => ?_)
  have e := bne_eq_false_iff_eq.1 e
  rw [enc_dec hb h0 e]
  simp
theorem lDec_true (b : List Int) (hb : Bytes b) : Ok Try.prog 3 [.ro 1 b.length (b.map eb)] (look []) (.v (.bool true)) (postOf [] []) := by
  have := lDec_ok b hb
  rwa [lDec_t b hb] at this
end Go.Proofs.Ythfgakbigpnkhaa.Sx.C3
