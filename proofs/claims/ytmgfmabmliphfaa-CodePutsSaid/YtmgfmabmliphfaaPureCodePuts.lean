/- Layer 2's law CodePuts, the plain law: any instruction has just the document's bytes, or its error; what is put is got as it was, whatever stands behind it. -/
import Derived.Test.YtmgfmabmliphfaaPx21
import Derived.Test.YtmgfmabmliphfaaPureA
namespace Go.Proofs.Ytmgfmabmliphfaa.Pure
open Go.RowKit Go.Proofs.Ytmgfmabmliphfaa.P Go.Proofs.YtmgfmabmliphfaaW.PrintWords Go.Proofs.YtmgfmabmliphfaaW.PrintLast
set_option linter.unusedVariables false

theorem CodePuts (op a b c i : Int) (l : List Int) (h0 : 0 ≤ i) (h1 : i < 18446744073709551616) (hb : Byt l) : backreachlaw02_CodePuts.f 60 op a b c i l = some true := by
  unfold backreachlaw02_CodePuts.f
  rw [awake_eq 60 (by omega)]
  simp only [Option.bind_some, if_true]
  by_cases hs : (l.length : Int) > 1000
  · rw [if_pos hs]
  · rw [if_neg hs, put_eq 60 (by omega), ref_put_eq 60 (by omega) op a b c i h0 h1]
    simp only [Option.bind_some]
    rw [if_pos trivial]
    simp only [backreachlaw02_CodePuts.j0, bne_self_eq_false]
    rw [if_neg (show ¬ (false = true) by simp)]
    by_cases e : (putS op a b c i).2 = 0
    · rw [if_pos e]
      obtain ⟨h, z⟩ := put_ok e
      have hp := (put_parts h z).1
      rw [hp]
      simp only [Option.bind_some, List.nil_append]
      have hg := get_put l h z h0 h1
      rw [if_pos (by simp [be]), if_pos (by simp [be]; omega), get_eq 59 (by omega), hg]
      · simp
      · intro x hx
        obtain ⟨_, r1, r2, r3⟩ := put_parts h z
        rcases List.mem_append.1 hx with hx | hx
        · rcases List.mem_append.1 hx with hx | hx
          · simp only [List.mem_cons, List.not_mem_nil, or_false] at hx
            omega
          · exact be_byt i x hx
        · exact hb x hx
    · rw [if_neg e]

theorem CodePuts_row (a0_0 a0_1 a0_2 a0_3 a0_4 : Int) (l1 : List Int) (h0_ : (Lit.int .i64 a0_0).wf = true) (h1_ : (Lit.int .i64 a0_1).wf = true) (h2_ : (Lit.int .i64 a0_2).wf = true) (h3_ : (Lit.int .i64 a0_3).wf = true) (h4_ : (Lit.int .u64 a0_4).wf = true) (h5_ : l1.length ≤ maxLen) (h6_ : l1.length * 1 ≤ 140737488351232) (h7_ : (∀ x ∈ l1, (Lit.int .u8 x).wf = true)) : ∃ k, backreachlaw02_CodePuts.f k a0_0 a0_1 a0_2 a0_3 a0_4 l1 = some true :=
  ⟨60, CodePuts a0_0 a0_1 a0_2 a0_3 a0_4 l1 (u64_of_wf h4_).1 (u64_of_wf h4_).2 (fun x hx => u8_of_wf (h7_ x hx))⟩

end Go.Proofs.Ytmgfmabmliphfaa.Pure
