/- What the functions of a chapter compute, as contracts; written by a program of this session. -/
import Derived.Test.YtjlfgbaphnpbfaaDoorK2
import Derived.Shelf.Spec.TrailingZeros
open Go Go.Proofs Go.RowKit
namespace Go.Proofs.YtjlfgbaphnpbfaaDoor.Sx.M5
set_option linter.unusedVariables false
set_option linter.unusedSimpArgs false
/-- The place of a word in the table. -/
def tzi (x : Int) : Int := (IntKind.u64.wrap ((Go.bits .and .u64 x (IntKind.u64.wrap (0 - x))) * 285870213051353865)).fdiv (2 ^ 58)
theorem tz_idx (x : Int) : 0 ≤ tzi x ∧ tzi x < 64 := by
  have h := wrap_u64_rng ((Go.bits .and .u64 x (IntKind.u64.wrap (0 - x))) * 285870213051353865)
  unfold tzi
  rw [Int.fdiv_eq_ediv_of_nonneg _ (by decide)]
  generalize IntKind.u64.wrap _ = y at *
  have e : y / 2 ^ 58 = y / 288230376151711744 := rfl
  omega
theorem tzi_eq (x : Int) : AV.v (.int .u64 ((IntKind.u64.wrap ((Go.bits .and .u64 x (IntKind.u64.wrap (0 - x))) * 285870213051353865)).fdiv (2 ^ 58))) = AV.v (.int .u64 (tzi x)) := rfl
theorem tab_el {i : Int} (h : 0 ≤ i ∧ i < 64) : ∀ D, GG D → ∃ cells te fr, D 0 = some (.cells cells te fr) ∧ ∀ (j : Nat) (x : Value), [Value.int .u8 ((Lib.deBruijn64tab.getD i.toNat 0 : Nat) : Int)][j]? = some x → cells[i.toNat + j]? = some x := by
  rintro D ⟨cs, t, f, h1, h2⟩
  refine ⟨cs, t, f, h1, fun j x hx => ?_⟩
  cases j with
  | zero =>
    simp only [List.getElem?_cons_zero, Option.some.injEq] at hx
    rw [← hx, Nat.add_zero]
    exact h2 _ (by omega)
  | succ j => simp at hx

def tz_s (x : Int) : Int := (bif x == (0 : Int) then (64 : Int) else (IntKind.i64.wrap (((Lib.deBruijn64tab.getD ((tzi x).toNat) 0 : Nat) : Int))))
set_option maxRecDepth 100000 in
theorem tz_ok (x : Int)  : Ok Tryd.prog 62 [.v (.int .u64 x)] (look []) (.v (.int .i64 (tz_s x))) (postOf [] []) := by
  unfold tz_s
  obtain ⟨i, hi⟩ : ∃ i, tzi x = i := ⟨_, rfl⟩
  rw [hi]
  cases h1001 : (x == (0 : Int))
  · have p1001 := ne_of_beq_false h1001
    exact ok_run Tryd.func62 rfl rfl mixed 400 [(1001, .b false), (3005, .as_ (.v (.int .u64 i))), (3006, .el [Value.int .u8 ((Lib.deBruijn64tab.getD (i.toNat) 0 : Nat) : Int)])] (all4 h1001 (hi ▸ tzi_eq x) (hi ▸ tz_idx x) (tab_el (hi ▸ tz_idx x))) (by kernel_rfl)
  · have p1001 := eq_of_beq h1001
    exact ok_run Tryd.func62 rfl rfl mixed 400 [(1001, .b true)] (all1 h1001) (by kernel_rfl)
end Go.Proofs.YtjlfgbaphnpbfaaDoor.Sx.M5
