/- Known bits, the plain law: KnownHolds. -/
import Derived.Test.YtidabafobpbniaaDoorPureKS
import Derived.Test.YtidabafobpbniaaDoorPureKA
import Derived.Test.YtidabafobpbniaaDoorPx13
namespace Go.Proofs.YtidabafobpbniaaDoor.Pure
open Go.RowKit Go.Proofs.YtidabafobpbniaaDoor.P Go.Proofs.YtidabafobpbniaaDoorW.PrintWords Go.Proofs.YtidabafobpbniaaDoorW.PrintLast Go.Proofs.YtidabafobpbniaaDoorW.PrintMore
set_option linter.unusedVariables false
set_option linter.unusedSimpArgs false

theorem ans_range (op : Int) {W : Nat} (h1 : 1 ≤ W) (hW : W ≤ 64) : 1 ≤ ansK op W ∧ ansK op W ≤ 64 := by unfold ansK; split <;> omega
theorem apply_ans (op : Int) {W a b : Nat} (h1 : 1 ≤ W) (la : a < 2 ^ W) (lb : b < 2 ^ W) : applyN op W a b < 2 ^ ansK op W := by
  unfold ansK
  by_cases c : op ≥ 19
  · rw [if_pos c]
    have : applyN op W a b = 0 ∨ applyN op W a b = 1 := by
      unfold applyN
      repeat rw [if_neg (by omega)]
      split
      · split
        · exact .inr rfl
        · exact .inl rfl
      · split
        · split
          · exact .inr rfl
          · exact .inl rfl
        · split
          · split
            · exact .inr rfl
            · exact .inl rfl
          · exact .inl rfl
    omega
  · rw [if_neg c]; exact apply_lt op h1 la lb
theorem fits_right {W : Nat} {x : Nat × Nat} {a : Nat} (f : Fits (rightK W x) a) : Fits (rightK W x) (a % 2 ^ W) := (fits_mod (right_okK W x) a).2 f
/-- What known.Apply answers has the bits of what word.Apply answers. -/
theorem kapply_fits {op : Int} (ho : isOpK op) {W : Nat} (h1 : 1 ≤ W) (hW : W ≤ 64) (x y : Nat × Nat) {a b : Nat} (la : a < 2 ^ W) (lb : b < 2 ^ W) (fa : Fits (rightK W x) a) (fb : Fits (rightK W y) b) : OkK (ansK op W) (kapplyK op W x y) ∧ Fits (kapplyK op W x y) (applyN op W a b) := by
  unfold kapplyK
  rw [if_pos ho]
  have numr : ∀ z : Nat × Nat, numK W (rightK W z) = numK W z := fun z => by unfold numK; rw [right_ofK (right_okK W z)]
  by_cases c : (numK W x).2 = true ∧ ((numK W y).2 = true ∨ op = 5)
  · rw [if_pos c]
    have ea : (numK W x).1 = a := by
      have := num_fits (right_okK W x) (by rw [numr]; exact c.1) la fa
      rwa [numr] at this
    have e : applyN op W (numK W x).1 (numK W y).1 = applyN op W a b := by
      rw [ea]
      rcases c.2 with d | d
      · have := num_fits (right_okK W y) (by rw [numr]; exact d) lb fb
        rw [numr] at this
        rw [this]
      · subst d; simp [applyN]
    rw [e]
    have l := apply_ans op h1 la lb
    exact ⟨of_okK _ _, (of_fits l l).2 rfl⟩
  · rw [if_neg c]
    have t := table_fits ho h1 hW (right_okK W x) (right_okK W y) la lb fa fb
    exact ⟨ok_of_fits t.1 t.2.1 t.2.2, t.2.2⟩
theorem num_of {W x : Nat} (hx : x < 2 ^ W) : numK W (ofK W x) = (x, true) := by
  unfold numK
  rw [right_ofK (of_okK W x)]
  unfold ofK
  rw [Nat.mod_eq_of_lt hx, if_pos rfl]
theorem KnownHolds_row (a0 : Int) (a1 : Int) (a2_0 a2_1 : Int) (a3_0 a3_1 : Int) (a4 : Int) (a5 : Int) (h0_ : (Lit.int .i64 a0).wf = true) (h1_ : (Lit.int .i64 a1).wf = true) (h2_ : (Lit.int .u64 a2_0).wf = true) (h3_ : (Lit.int .u64 a2_1).wf = true) (h4_ : (Lit.int .u64 a3_0).wf = true) (h5_ : (Lit.int .u64 a3_1).wf = true) (h6_ : (Lit.int .u64 a4).wf = true) (h7_ : (Lit.int .u64 a5).wf = true) : ∃ k, backreachlaw12_KnownHolds.f k a0 a1 a2_0 a2_1 a3_0 a3_1 a4 a5 = some true := by
  obtain ⟨x0, rfl, l0⟩ := nat_of_wf h2_
  obtain ⟨x1, rfl, l1⟩ := nat_of_wf h3_
  obtain ⟨y0, rfl, l2⟩ := nat_of_wf h4_
  obtain ⟨y1, rfl, l3⟩ := nat_of_wf h5_
  obtain ⟨a, rfl, l4⟩ := nat_of_wf h6_
  obtain ⟨b, rfl, l5⟩ := nat_of_wf h7_
  have hr := cw_range a1
  have hp := pow_le64 hr.2
  have pp : 0 < 2 ^ cw a1 := Nat.pow_pos (by decide)
  refine ⟨12, ?_⟩
  have j0t : backreachlaw12_KnownHolds.j0 12 a0 a1 (a : Int) (b : Int) true (x0 : Int) (x1 : Int) (y0 : Int) (y1 : Int) = some true := by
    simp only [backreachlaw12_KnownHolds.j0, if_true]
  have hx := has_eqK a1 (x0, x1) a l0 l1 l4
  have hy := has_eqK a1 (y0, y1) b l2 l3 l5
  simp only at hx hy
  unfold backreachlaw12_KnownHolds.f
  rw [awake_eqK 0]
  simp only [Option.bind_some, if_true]
  rw [hx, hy]
  simp only [Option.bind_some]
  cases c : hasK (cw a1) (x0, x1) a
  · simp only [Bool.false_eq_true, if_false]; exact j0t
  simp only [if_true]
  cases d : hasK (cw a1) (y0, y1) b
  · simp only [Bool.false_eq_true, if_false]; exact j0t
  simp only [if_true]
  have good : isOpK a0 → backreachlaw12_KnownHolds.j0 12 a0 a1 (a : Int) (b : Int) false (x0 : Int) (x1 : Int) (y0 : Int) (y1 : Int) = some true := by
    intro ho
    have ma : a % 2 ^ cw a1 < 2 ^ cw a1 := Nat.mod_lt _ pp
    have mb : b % 2 ^ cw a1 < 2 ^ cw a1 := Nat.mod_lt _ pp
    have fa := fits_right ((hasK_iff hr.2 _ l4).1 c)
    have fb := fits_right ((hasK_iff hr.2 _ l5).1 d)
    have t := kapply_fits ho hr.1 hr.2 (x0, x1) (y0, y1) ma mb fa fb
    have va := apply_ans a0 hr.1 ma mb
    have vr := ans_range a0 hr.1 hr.2
    have v64 := pow_le64 vr.2
    have e1 := kapply_eq 6 a0 a1 (x0, x1) (y0, y1) l0 l1 l2 l3
    have oa := ok_lt64 hr.2 (of_okK (cw a1) a)
    have ob := ok_lt64 hr.2 (of_okK (cw a1) b)
    have e2 := kapply_eq 6 a0 a1 (ofK (cw a1) a) (ofK (cw a1) b) oa.1 oa.2 ob.1 ob.2
    have n1 : numK (cw a1) (ofK (cw a1) a) = (a % 2 ^ cw a1, true) := by
      have := num_of ma
      rwa [show ofK (cw a1) (a % 2 ^ cw a1) = ofK (cw a1) a by unfold ofK; rw [Nat.mod_mod]] at this
    have n2 : numK (cw a1) (ofK (cw a1) b) = (b % 2 ^ cw a1, true) := by
      have := num_of mb
      rwa [show ofK (cw a1) (b % 2 ^ cw a1) = ofK (cw a1) b by unfold ofK; rw [Nat.mod_mod]] at this
    have ke : kapplyK a0 (cw a1) (ofK (cw a1) a) (ofK (cw a1) b) = ofK (ansK a0 (cw a1)) (applyN a0 (cw a1) (a % 2 ^ cw a1) (b % 2 ^ cw a1)) := by
      unfold kapplyK
      rw [if_pos ho, n1, n2, if_pos ⟨rfl, .inl rfl⟩]
    rw [ke] at e2
    have ae := apply_eq a0 a1 a b l4 l5
    generalize applyN a0 (cw a1) (a % 2 ^ cw a1) (b % 2 ^ cw a1) = v at *
    generalize kapplyK a0 (cw a1) (x0, x1) (y0, y1) = T at *
    have oT := ok_lt64 vr.2 t.1
    -- the width of the answer, as the law has it
    have tail : ∀ q : Int, cw q = ansK a0 (cw a1) → backreachlaw12_KnownHolds.j1 11 a0 a1 (a : Int) (b : Int) (v : Int) q (x0 : Int) (x1 : Int) (y0 : Int) (y1 : Int) = some true := by
      intro q hq
      have he := has_eqK q T v oT.1 oT.2 (by omega)
      rw [hq, (hasK_iff vr.2 T (by omega)).2 (by rw [right_ofK t.1]; exact t.2)] at he
      have om := ok_lt64 vr.2 (of_okK (ansK a0 (cw a1)) v)
      have ne := num_eqK q (ofK (ansK a0 (cw a1)) v) om.1 om.2
      rw [hq, num_of va] at ne
      have o1 := of_eqK a1 a l4
      have o2 := of_eqK a1 b l5
      simp only [backreachlaw12_KnownHolds.j1]
      simp only at e1
      have e1' : known_Apply.f 10 a0 a1 (x0 : Int) (x1 : Int) (y0 : Int) (y1 : Int) = some (KZ T) := e1
      have e2' : known_Apply.f 10 a0 a1 (KZ (ofK (cw a1) a)).1 (KZ (ofK (cw a1) a)).2 (KZ (ofK (cw a1) b)).1 (KZ (ofK (cw a1) b)).2 = some (KZ (ofK (ansK a0 (cw a1)) v)) := e2
      have ne' : known_Num.f q (KZ (ofK (ansK a0 (cw a1)) v)).1 (KZ (ofK (ansK a0 (cw a1)) v)).2 = some ((v : Int), true) := ne
      have he' : known_Has.f q (KZ T).1 (KZ T).2 (v : Int) = some true := he
      have me := mask_eq q
      rw [hq] at me
      rw [e1', o1, o2]
      simp only [Option.bind_some]
      rw [e2']
      simp only [Option.bind_some]
      rw [ne']
      simp only [Option.bind_some]
      rw [he']
      simp only [Option.bind_some, if_true]
      rw [me]
      simp only [Option.bind_some]
      have z : Go.bits .and .u64 (KZ T).1 (KZ T).2 = 0 := by
        show Go.bits .and .u64 (T.1 : Int) (T.2 : Int) = 0
        rw [and_nat _ _ oT.1 oT.2, t.1.2.2]; rfl
      have t1 := t.1.1
      have t2 := t.1.2.1
      rw [if_pos z, if_pos (show (KZ T).1 ≤ ((2 ^ ansK a0 (cw a1) - 1 : Nat) : Int) by simp only [KZ]; omega), if_pos (show (KZ T).2 ≤ ((2 ^ ansK a0 (cw a1) - 1 : Nat) : Int) by simp only [KZ]; omega)]
      simp
    simp only [backreachlaw12_KnownHolds.j0, Bool.false_eq_true, if_false]
    rw [ae]
    simp only [Option.bind_some]
    by_cases g : a0 ≥ 19
    · rw [if_pos g]
      exact tail 1 (by unfold ansK; rw [if_pos g]; rfl)
    · rw [if_neg g]
      exact tail a1 (by unfold ansK; rw [if_neg g])
  by_cases o1 : a0 < 5
  · rw [if_pos o1]; exact j0t
  · rw [if_neg o1]
    by_cases o2 : a0 > 21
    · rw [if_pos o2]; exact j0t
    · rw [if_neg o2]
      by_cases o3 : a0 = 6
      · rw [if_pos o3]; exact j0t
      · rw [if_neg o3]
        by_cases o4 : a0 = 7
        · rw [show (a0 == 7) = true from beq_iff_eq.mpr o4]; exact j0t
        · rw [show (a0 == 7) = false from beq_eq_false_iff_ne.mpr o4]
          exact good (by unfold isOpK; omega)
end Go.Proofs.YtidabafobpbniaaDoor.Pure
