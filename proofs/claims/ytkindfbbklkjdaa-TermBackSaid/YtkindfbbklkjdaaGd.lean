import Derived.Test.YtkindfbbklkjdaaGc
import Derived.Maps.Keyed
import Derived.DeepKeys4
namespace Go.Proofs.Ytkindfbbklkjdaa.P
open Go.RowKit Go.Proofs.YtkindfbbklkjdaaW.PrintWords Go.Proofs.YtkindfbbklkjdaaW.PrintLast Go.Proofs.YtkindfbbklkjdaaW.PrintMore
open Go.MapKept
set_option linter.unusedVariables false
set_option linter.unusedSimpArgs false

theorem laidOut06 : laidOutB Try.prog = true := by kernel_rfl
theorem wide32 : (match Try.prog.underlying 32 with | some (.array _ _) | some (.struct _) => true | _ => false) = true := by rw [Try.underlying32]
theorem row32 : (32 : TypeId) < Try.prog.types.size := of_decide_eq_true (by kernel_rfl)
theorem keyed32 : Maps.Keyed Try.prog 32 := Maps.Keyed.of_law (deep_law_laid laidOut06 (m := 3) (by omega) row32 (by kernel_rfl) wide32)
theorem cells32 : Try.prog.cellsOf 32 = 6 := by kernel_rfl
theorem cells30 : Try.prog.cellsOf 30 = 3 := by kernel_rfl
theorem cells3 : Try.prog.cellsOf 3 = 1 := by kernel_rfl
theorem cells29 : Try.prog.cellsOf 29 = 1 := by kernel_rfl
theorem formed32 (n : S32) : (nodeV n).formed Try.prog 32 = true := by simp [nodeV, Value.formed, Try.underlying32, cells32]

theorem keyLits_node (n : S32) (h : okN n = true) (d : Nat) : Try.prog.keyLits (d + 3) 32 (nodeV n).cells.toList = some [.int .i64 n.f0, .int .i64 n.f1, .int .u64 n.f2, .int .i64 n.f3.f0, .int .i64 n.f3.f1, .int .i64 n.f3.f2] := by
  unfold okN wf64 wfu at h
  simp only [Bool.and_eq_true] at h
  obtain ⟨⟨⟨⟨⟨h0, h1⟩, h2⟩, h3⟩, h4⟩, h5⟩ := h
  simp [nodeV, Value.cells, Program.keyLits, Try.underlying32, Try.underlying3, Try.underlying29, Try.underlying30, cells32, cells30, cells3, cells29, h0, h1, h2, h3, h4, h5, List.range_succ]

theorem keyOf_node (n : S32) (h : okN n = true) : ∃ l, keyOf Try.prog 32 (nodeV n) = some l := by
  unfold keyOf
  have hk : Try.prog.keyType 32 = true := by kernel_rfl
  rw [Try.underlying32]
  simp only [hk, formed32, Bool.and_self, if_true]
  obtain ⟨d, hd⟩ : ∃ d, Try.prog.types.size + 1 = d + 3 := ⟨Try.prog.types.size - 2, by have : 32 < Try.prog.types.size := row32; omega⟩
  rw [hd, keyLits_node n h]
  exact ⟨_, rfl⟩

theorem entries_toList (l : List S32) : (entries l).toList = entriesFrom 0 l := by simp [entries]

theorem find_node (W : World) (l : List S32) (hfit : ∀ a ∈ l, okN a = true) (n : S32) (hn : okN n = true) :
    ((Instr.findKey 32 (nodeV n) (entries l).toList).run Try.prog W = .ok none W ∧ n ∉ l) ∨
    ∃ j : Nat, (Instr.findKey 32 (nodeV n) (entries l).toList).run Try.prog W = .ok (some (j, .int .i64 (j : Int))) W ∧ l[j]? = some n := by
  obtain ⟨kl, hk⟩ := keyOf_node n hn
  rw [entries_toList]
  rcases keyed32.find W hk (entriesFrom 0 l) (fun e he => by obtain ⟨a, ha, e'⟩ := entriesFrom_mem 0 l e he; rw [e']; exact keyOf_node a (hfit a ha)) with ⟨h1, h2⟩ | ⟨j, e, h1, h2, h3⟩
  · refine .inl ⟨h1, fun hm => ?_⟩
    obtain ⟨i, hi⟩ := List.mem_iff_getElem?.1 hm
    exact h2 _ (List.mem_of_getElem? (by rw [entriesFrom_get 0 i l, hi]; rfl)) rfl
  · refine .inr ⟨j, ?_⟩
    rw [entriesFrom_get] at h2
    obtain ⟨a, ha, he⟩ := Option.map_eq_some_iff.1 h2
    subst he
    rw [nodeV_inj h3] at ha
    refine ⟨?_, ha⟩
    rw [h1]
    simp

theorem look_hit (W : World) (bm : Nat) (l : List S32) (hb : W.heap[bm]? = some (.map (entries l) l.length)) (n : S32) (hn : okN n = true) (j : Nat)
    (hf : (Instr.findKey 32 (nodeV n) (entries l).toList).run Try.prog W = .ok (some (j, .int .i64 (j : Int))) W) :
    (Instr.lookup 52 (.map (some bm)) (nodeV n) true).run Try.prog W = .ok (.tuple #[.int .i64 (j : Int), .bool true]) W := by
  obtain ⟨kl, hk⟩ := keyOf_node n hn
  simp [Instr.lookup, run_underlying Try.underlying52, MapKept.run_getObj_map hb, keyed32.check W _ hk, hf, Result.andThen]

theorem zero3 (w : World) : (zeroValue 3).run Try.prog w = .ok (.int .i64 0) w := by kernel_rfl

theorem look_miss (W : World) (bm : Nat) (l : List S32) (hb : W.heap[bm]? = some (.map (entries l) l.length)) (n : S32) (hn : okN n = true)
    (hf : (Instr.findKey 32 (nodeV n) (entries l).toList).run Try.prog W = .ok none W) :
    (Instr.lookup 52 (.map (some bm)) (nodeV n) true).run Try.prog W = .ok (.tuple #[.int .i64 0, .bool false]) W := by
  obtain ⟨kl, hk⟩ := keyOf_node n hn
  simp [Instr.lookup, run_underlying Try.underlying52, MapKept.run_getObj_map hb, keyed32.check W _ hk, hf, zero3, Result.andThen]

theorem put_node (W : World) (bm : Nat) (l : List S32) (hb : W.heap[bm]? = some (.map (entries l) l.length)) (n : S32) (hn : okN n = true)
    (hf : (Instr.findKey 32 (nodeV n) (entries l).toList).run Try.prog W = .ok none W) :
    (Instr.mapUpdate 52 (.map (some bm)) (nodeV n) (.int .i64 (l.length : Int))).run Try.prog W = .ok () (ChangeMaps.setBlock W bm (.map (entries (l ++ [n])) (l ++ [n]).length)) := by
  obtain ⟨kl, hk⟩ := keyOf_node n hn
  rw [entries_push]
  simp [Instr.mapUpdate, run_underlying Try.underlying52, MapKept.run_getObj_map hb, keyed32.check W _ hk, hf, MapKept.run_setObj_map _ hb, Result.andThen, ChangeMaps.setBlock]

end Go.Proofs.Ytkindfbbklkjdaa.P
