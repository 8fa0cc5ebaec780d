/- What the functions of a chapter compute, as contracts; written by a program of this session. -/
import Derived.Test.YteolbecihipcaaaM11
import Derived.Test.YteolbecihipcaaaSx19
import Derived.OpenShut
import Derived.WalkKit
import Derived.ProofKit
open Go Go.Proofs Go.RowKit Go.ChangeShapes Go.WideShapes
namespace Go.Proofs.Yteolbecihipcaaa.Sx.M5
set_option linter.unusedVariables false
set_option linter.unusedSimpArgs false
theorem u8_of_wf {x : Int} (h : (Lit.int .u8 x).wf = true) : 0 ≤ x ∧ x ≤ 255 := by
  simp [Lit.wf, IntKind.min, IntKind.max, IntKind.signed, IntKind.bits] at h
  omega
theorem u64_of_wf {x : Int} (h : (Lit.int .u64 x).wf = true) : 0 ≤ x ∧ x < 18446744073709551616 := by
  simp [Lit.wf, IntKind.min, IntKind.max, IntKind.signed, IntKind.bits] at h
  omega
section
variable {H : Type} {enc : TypeId × Value → H} {w : World} {base : Nat} {spare : Nat → Bool} {held : Bool}
theorem bytes_ro {a : Option Addr} {len cap fuel : Nat} {x : DataW H × List MemPlace} (h : DataW.trod enc Try.prog w base spare held fuel 22 [.slice a len cap] = some x) : ∃ l : List Int, Bytes l ∧ ∀ ρ, Rep ρ (fun b => w.heap[b]?) (.ro 1 l.length (l.map eb)) (.slice a len cap) := by
  obtain ⟨rows, h1, h2, h3, h4⟩ := open_ro (n := 8) (ks := [.u8]) Try.underlying22 (by kernel_rfl) (by kernel_rfl) (by decide) h
  refine ⟨rows.map (fun ns => ns.headD 0), ?_, fun ρ => ?_⟩
  · intro y hy
    obtain ⟨ns, hns, rfl⟩ := List.mem_map.1 hy
    obtain ⟨hn, hw⟩ := h1 ns hns
    match ns, hn, hw with
    | [x], _, hw => exact u8_of_wf hw.1
  · have := h4 ρ
    rw [List.length_map, List.map_map]
    rwa [show rows.map (cells [.u8]) = rows.map (eb ∘ fun ns => ns.headD 0) from List.map_congr_left fun ns hns => by
      match ns, (h1 ns hns).1 with
      | [x], _ => rfl] at this
theorem ints_ro {a : Option Addr} {len cap fuel : Nat} {x : DataW H × List MemPlace} (h : DataW.trod enc Try.prog w base spare held fuel 23 [.slice a len cap] = some x) : ∃ l : List Int, ∀ ρ, Rep ρ (fun b => w.heap[b]?) (.ro 1 l.length (l.map ei)) (.slice a len cap) := by
  obtain ⟨rows, h1, h2, h3, h4⟩ := open_ro (n := 8) (ks := [.i64]) Try.underlying23 (by kernel_rfl) (by kernel_rfl) (by decide) h
  refine ⟨rows.map (fun ns => ns.headD 0), fun ρ => ?_⟩
  have := h4 ρ
  rw [List.length_map, List.map_map]
  rwa [show rows.map (cells [.i64]) = rows.map (ei ∘ fun ns => ns.headD 0) from List.map_congr_left fun ns hns => by
    match ns, (h1 ns hns).1 with
    | [x], _ => rfl] at this
/-- An instruction's immediate is a number of 64 bits. -/
abbrev InsRng (i : Ins) : Prop := 0 ≤ i.imm ∧ i.imm < 18446744073709551616
def mkI (ns : List Int) : Ins := match ns with
  | [a, b, c, d, e] => ⟨a, b, c, d, e⟩
  | _ => default
theorem code_ro {a : Option Addr} {len cap fuel : Nat} {x : DataW H × List MemPlace} (h : DataW.trod enc Try.prog w base spare held fuel 24 [.slice a len cap] = some x) : ∃ l : List Ins, (∀ i ∈ l, InsRng i) ∧ ∀ ρ, Rep ρ (fun b => w.heap[b]?) (.ro 5 l.length (l.map eIns)) (.slice a len cap) := by
  obtain ⟨rows, h1, h2, h3, h4⟩ := open_ro (n := 8) (ks := [.i64, .i64, .i64, .i64, .u64]) Try.underlying24 (by kernel_rfl) (by kernel_rfl) (by decide) h
  refine ⟨rows.map mkI, ?_, fun ρ => ?_⟩
  · intro y hy
    obtain ⟨ns, hns, rfl⟩ := List.mem_map.1 hy
    obtain ⟨hn, hw⟩ := h1 ns hns
    match ns, hn, hw with
    | [a, b, c, d, e], _, hw => exact u64_of_wf hw.2.2.2.2.1
  · have := h4 ρ
    rw [List.length_map, List.map_map]
    rwa [show rows.map (cells [.i64, .i64, .i64, .i64, .u64]) = rows.map (eIns ∘ mkI) from List.map_congr_left fun ns hns => by
      match ns, (h1 ns hns).1 with
      | [a, b, c, d, e], _ => rfl] at this
/-- An image as it is handed over. -/
abbrev ImgOk (p : Img) : Prop := Bytes p.data ∧ ∀ i ∈ p.code, InsRng i
theorem open_bytes {a : Option Addr} {len cap : Nat} {d : DataW H} {p : List MemPlace} (h : DataW.Trod enc Try.prog w base spare held 22 (.slice a len cap) d p) : ∃ l : List Int, Bytes l ∧ ∀ ρ, Rep ρ (fun b => w.heap[b]?) (.ro 1 l.length (l.map eb)) (.slice a len cap) := by
  obtain ⟨fuel, h⟩ := h
  exact bytes_ro (by simpa [Value.cells] using h)
theorem slice_cell {t e : TypeId} {fuel : Nat} {cs : List Value} {x : DataW H × List MemPlace} (ht : Try.prog.underlying t = some (.slice e)) (h : DataW.trod enc Try.prog w base spare held fuel t cs = some x) : ∃ a len cap, cs = [.slice a len cap] := by
  rcases Go.Deep.open_slice ht h with ⟨rfl, _⟩ | ⟨a, len, cap, _, _, _, _, rfl, _⟩
  · exact ⟨_, _, _, rfl⟩
  · exact ⟨_, _, _, rfl⟩
set_option maxRecDepth 100000 in
theorem open_img {r : Reach} {b0 : Nat} {v : Value} {d : DataW H} {p : List MemPlace} (hv : Value.okWide Try.prog w r b0 26 v) (h : DataW.Trod enc Try.prog w base spare held 26 v d p) : ∃ q : Img, ImgOk q ∧ ∀ ρ, Rep ρ (fun b => w.heap[b]?) (.agg [.v (.int .i64 q.mem), .v (.int .i64 q.stack), .v (.int .i64 q.input), .ro 1 q.data.length (q.data.map eb), .ro 1 q.funs.length (q.funs.map ei), .ro 5 q.code.length (q.code.map eIns)]) v := by
  obtain ⟨cs, rfl, _⟩ := okWide_struct Try.underlying26 hv
  obtain ⟨fuel, h⟩ := h
  obtain ⟨xs, q, _, _, hlen, hxl, hi⟩ := DataW.trod_struct Try.underlying26 h
  have hl : cs.toList.length = 6 := hlen.trans (by kernel_rfl)
  have c3 : Try.prog.cellsOf 3 = 1 := by kernel_rfl
  have c22 : Try.prog.cellsOf 22 = 1 := by kernel_rfl
  have c23 : Try.prog.cellsOf 23 = 1 := by kernel_rfl
  have c24 : Try.prog.cellsOf 24 = 1 := by kernel_rfl
  have hc : (Value.agg cs).cells.toList = cs.toList := rfl
  rw [hc] at hi
  have h0 : DataW.trod enc Try.prog w base spare held q 3 ((cs.toList.drop 0).take (Try.prog.cellsOf 3)) = xs[0]? := hi 0 _ rfl
  have h1 : DataW.trod enc Try.prog w base spare held q 3 ((cs.toList.drop 1).take (Try.prog.cellsOf 3)) = xs[1]? := hi 1 _ rfl
  have h2 : DataW.trod enc Try.prog w base spare held q 3 ((cs.toList.drop 2).take (Try.prog.cellsOf 3)) = xs[2]? := hi 2 _ rfl
  have h3 : DataW.trod enc Try.prog w base spare held q 22 ((cs.toList.drop 3).take (Try.prog.cellsOf 22)) = xs[3]? := hi 3 _ rfl
  have h4 : DataW.trod enc Try.prog w base spare held q 23 ((cs.toList.drop 4).take (Try.prog.cellsOf 23)) = xs[4]? := hi 4 _ rfl
  have h5 : DataW.trod enc Try.prog w base spare held q 24 ((cs.toList.drop 5).take (Try.prog.cellsOf 24)) = xs[5]? := hi 5 _ rfl
  simp only [c3, c22, c23, c24] at h0 h1 h2 h3 h4 h5
  have hx : xs.length = 6 := hxl
  obtain ⟨l, rfl⟩ : ∃ l, cs = List.toArray l := ⟨cs.toList, by simp⟩
  simp only [] at hl h0 h1 h2 h3 h4 h5
  match l, hl, xs, hx, h0, h1, h2, h3, h4, h5 with
  | [a0, a1, a2, a3, a4, a5], _, [x0, x1, x2, x3, x4, x5], _, h0, h1, h2, h3, h4, h5 =>
    simp only [List.drop_zero, List.drop_succ_cons, List.take_succ_cons, List.take_zero, List.getElem?_cons_zero, List.getElem?_cons_succ] at h0 h1 h2 h3 h4 h5
    obtain ⟨m, e0, _, _⟩ := DataW.trod_int Try.underlying3 h0
    obtain ⟨s, e1, _, _⟩ := DataW.trod_int Try.underlying3 h1
    obtain ⟨i, e2, _, _⟩ := DataW.trod_int Try.underlying3 h2
    obtain ⟨A3, n3, p3, e3⟩ := slice_cell Try.underlying22 h3
    obtain ⟨A4, n4, p4, e4⟩ := slice_cell Try.underlying23 h4
    obtain ⟨A5, n5, p5, e5⟩ := slice_cell Try.underlying24 h5
    simp only [List.cons.injEq, and_true] at e0 e1 e2 e3 e4 e5
    subst e0 e1 e2 e3 e4 e5
    obtain ⟨da, hd, r3⟩ := bytes_ro h3
    obtain ⟨fu, r4⟩ := ints_ro h4
    obtain ⟨co, hco, r5⟩ := code_ro h5
    exact ⟨⟨m, s, i, da, fu, co⟩, ⟨hd, hco⟩, fun ρ => .agg _ _ (.cons (.v _) (.cons (.v _) (.cons (.v _) (.cons (r3 ρ) (.cons (r4 ρ) (.cons (r5 ρ) .nil))))))⟩
end
theorem imm_of {p : Img} (h : ImgOk p) : ImmOk p := by
  intro j
  by_cases c : j < p.code.length
  · exact (h.2 _ (by rw [List.getD_eq_getElem?_getD, List.getElem?_eq_getElem c]; exact List.getElem_mem c)).1
  · rw [List.getD_eq_getElem?_getD, List.getElem?_eq_none (by omega)]; exact Int.le_refl 0
end Go.Proofs.Yteolbecihipcaaa.Sx.M5
