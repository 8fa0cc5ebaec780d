/- ImageFaults: the plain law. -/
import Derived.Test.YthfgakbigpnkhaaC4
open Go Go.Proofs Go.RowKit
namespace Go.Proofs.Ythfgakbigpnkhaa.Sx.C3
set_option linter.unusedVariables false
set_option linter.unusedSimpArgs false
def FErr (b : List Int) (r : FrontT) : Prop := r.1 = true → (r.2.1 = 1 ∧ r.2.2.1 = b.length) ∨ ((r.2.1 = 2 ∨ r.2.1 = 3) ∧ 0 ≤ r.2.2.1 ∧ r.2.2.1 < b.length)
theorem ifront_err (b : List Int) : FErr b (ifront_s b) := by
  have sh : ∀ x : FrontT, x.2.1 = 1 → x.2.2.1 = b.length → FErr b x := fun x h1 h2 _ => .inl ⟨h1, h2⟩
  have rg : ∀ x : FrontT, (x.2.1 = 2 ∨ x.2.1 = 3) → 0 ≤ x.2.2.1 → x.2.2.1 < b.length → FErr b x := fun x h1 h2 h3 _ => .inr ⟨h1, h2, h3⟩
  unfold ifront_s
  refine bifP (fun h => sh _ rfl rfl) (fun h1 => ?_)
  have h1 := of_decide_eq_false h1
  refine bifP (fun h => rg _ (.inl rfl) (by show (0 : Int) ≤ 0; decide) (by show (0 : Int) < _; omega)) (fun h => ?_)
  refine bifP (fun h => sh _ rfl rfl) (fun h2 => ?_)
  have h2 := of_decide_eq_false h2
  refine bifP (fun h => rg _ (.inl rfl) (by show (0 : Int) ≤ 4; decide) (by show (4 : Int) < _; omega)) (fun h => ?_)
  refine bifP (fun h => sh _ rfl rfl) (fun h3 => ?_)
  have h3 := of_decide_eq_false h3
  refine bifP (fun h => rg _ (.inr rfl) (by show (0 : Int) ≤ 5; decide) (by show (5 : Int) < _; omega)) (fun h => ?_)
  refine bifP (fun h => sh _ rfl rfl) (fun h4 => ?_)
  have h4 := of_decide_eq_false h4
  refine bifP (fun h => rg _ (.inr rfl) (by show (0 : Int) ≤ 6; decide) (by show (6 : Int) < _; omega)) (fun h => ?_)
  refine bifP (fun h => sh _ rfl rfl) (fun h5 => ?_)
  have h5 := of_decide_eq_false h5
  refine bifP (fun h => rg _ (.inr rfl) (by show (0 : Int) ≤ 7; decide) (by show (7 : Int) < _; omega)) (fun h => ?_)
  refine bifP (fun h => sh _ rfl rfl) (fun h6 => ?_)
  have h6 := of_decide_eq_false h6
  refine bifP (fun h => rg _ (.inr rfl) (by show (0 : Int) ≤ 8; decide) (by show (8 : Int) < _; omega)) (fun h => ?_)
  refine bifP (fun h => sh _ rfl rfl) (fun h => ?_)
  intro h; cases h
/-- What bytes may come to. -/
def DecOk (b : List Int) (r : Img × Int × Int) : Prop := (r.2.1 = 0 ∧ r.2.2 = 0 ∧ 0 < r.1.code.length) ∨ (r.2.1 = 1 ∧ r.2.2 = b.length ∧ r.1.code.length = 0) ∨ ((r.2.1 = 2 ∨ r.2.1 = 3 ∨ r.2.1 = 4 ∨ r.2.1 = 5 ∨ r.2.1 = 6 ∨ r.2.1 = 7) ∧ 0 ≤ r.2.2 ∧ r.2.2 < b.length ∧ r.1.code.length = 0)
theorem idec_facts {b : List Int} (hb : Bytes b) (h0 : b.length < 2 ^ 40) : DecOk b (idec_s b) := by
  unfold idec_s
  refine bifP (fun h => ?_) (fun h1 => ?_)
  · rcases ifront_err b h with ⟨e1, e2⟩ | ⟨e1, e2, e3⟩
    · exact .inr (.inl ⟨e1, e2, rfl⟩)
    · refine .inr (.inr ⟨?_, e2, e3, rfl⟩)
      rcases e1 with e | e
      · exact .inl e
      · exact .inr (.inl e)
  have R := restB_rng hb h0 h1
  refine bifP (fun h => ?_) (fun h2 => ?_)
  · rcases R.2 h with ⟨e1, e2⟩ | ⟨e1, e2, e3⟩
    · exact .inr (.inl ⟨e1, e2, rfl⟩)
    · refine .inr (.inr ⟨?_, e2, e3, rfl⟩)
      rcases e1 with e | e | e
      · exact .inr (.inl e)
      · exact .inr (.inr (.inl e))
      · exact .inr (.inr (.inr (.inl e)))
  obtain ⟨q1, q2, q3, _, _, _, q4, _, _, q5⟩ := R.1 h2
  refine bifP (fun h => ?_) (fun h3 => ?_)
  · have := of_decide_eq_true h
    exact .inr (.inr ⟨.inr (.inr (.inr (.inr (.inl rfl)))), by show 0 ≤ (restB b).2.2.2.2.1; omega, this, rfl⟩)
  refine bifP (fun h => ?_) (fun h4 => ?_)
  · have hk := of_decide_eq_true h
    have hs := stray_rng (imgD b)
    have hc : (imgD b).code.length = (restB b).2.2.2.2.2.2.length := rfl
    rw [hc] at hs
    refine .inr (.inr ⟨.inr (.inr (.inr (.inr (.inr rfl)))), ?_, ?_, rfl⟩)
    · show 0 ≤ IntKind.i64.wrap ((restB b).2.2.2.1 + IntKind.i64.wrap (12 * stray_s (imgD b)))
      rw [wrap_i64 (x := 12 * stray_s (imgD b)) (by omega) (by omega), wrap_i64 (by omega) (by omega)]; omega
    · show IntKind.i64.wrap ((restB b).2.2.2.1 + IntKind.i64.wrap (12 * stray_s (imgD b))) < b.length
      rw [wrap_i64 (x := 12 * stray_s (imgD b)) (by omega) (by omega), wrap_i64 (by omega) (by omega)]; omega
  · exact .inl ⟨rfl, rfl, q5⟩
theorem lFau_t (b : List Int) (hb : Bytes b) : lFau_s b = true := by
  unfold lFau_s
  refine bifP (P := fun r : Bool => r = true) (fun _ => rfl) (fun h => ?_)
  have h := of_decide_eq_false h
  rcases idec_facts hb (by omega) with ⟨e1, e2, e3⟩ | ⟨e1, e2, e3⟩ | ⟨e1, e2, e3, e4⟩
  · rw [e1, e2]; simpa using e3
  · rw [e1, e2, e3]; simp
  · have d1 : decide ((idec_s b).2.2 ≥ 0) = true := decide_eq_true e2
    have d2 : decide ((idec_s b).2.2 ≤ (b.length : Int)) = true := decide_eq_true (by omega)
    have d3 : decide ((idec_s b).2.2 < (b.length : Int)) = true := decide_eq_true e3
    rcases e1 with e | e | e | e | e | e <;> rw [e, d1, d2, d3, e4] <;> rfl
theorem lFau_true (b : List Int) (hb : Bytes b) : Ok Try.prog 5 [.ro 1 b.length (b.map eb)] (look []) (.v (.bool true)) (postOf [] []) := by
  have := lFau_ok b hb
  rwa [lFau_t b hb] at this
end Go.Proofs.Ythfgakbigpnkhaa.Sx.C3
