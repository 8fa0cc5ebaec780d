/- Layer 2's law CodeGets: any bytes tell just the document's instruction, or its error, at its place, and what is got is put as it was; for every list of bytes. -/
import Derived.Test.YtmgfmabmliphfaaPx24
import Derived.Test.YtmgfmabmliphfaaPureA
namespace Go.Proofs.Ytmgfmabmliphfaa.Pure
open Go.RowKit Go.Proofs.Ytmgfmabmliphfaa.P Go.Proofs.YtmgfmabmliphfaaW.PrintWords Go.Proofs.YtmgfmabmliphfaaW.PrintLast
set_option linter.unusedVariables false

theorem CodeGets_row (l : List Int) (hl1 : l.length ≤ maxLen) (hl2 : l.length * 1 ≤ 140737488351232) (hw : ∀ x ∈ l, (Lit.int .u8 x).wf = true) : ∃ k, backreachlaw02_CodeGets.f k l = some true := by
  have hb : Byt l := fun x hx => u8_of_wf (hw x hx)
  refine ⟨60, ?_⟩
  unfold backreachlaw02_CodeGets.f
  rw [awake_eq 60 (by omega)]
  simp only [Option.bind_some, if_true, List.nil_append]
  by_cases hs : (l.length : Int) > 1000
  · rw [if_pos hs]
  · rw [if_neg hs, if_pos (show ([] : List Int).length + l.length < 140737488355328 by simp; omega), get_eq 60 (by omega) l hb, ref_get_eq 60 (by omega) l hb]
    simp only [Option.bind_some, beq_self_eq_true, Bool.not_true, Bool.or_false, bne_self_eq_false]
    rw [if_neg (show ¬ (false = true) by simp), if_pos trivial]
    simp only [backreachlaw02_CodeGets.j0]
    rw [if_neg (show ¬ (false = true) by simp)]
    by_cases e : (getS l).2.2.2.2.2.1 = 0
    · rw [if_pos e]
      obtain ⟨h12, h0, z, he⟩ := get_ok e
      rw [he]
      simp only []
      rw [put_eq 59 (by omega), (put_parts h0 z).1]
      simp only [Option.bind_some]
      have hv := be_val (tail8 l) (tail8_len h12) (tail8_byt hb)
      rw [if_pos trivial, if_pos (by omega), split12 h12, hv.1]
      simp
    · rw [if_neg e]

end Go.Proofs.Ytmgfmabmliphfaa.Pure
