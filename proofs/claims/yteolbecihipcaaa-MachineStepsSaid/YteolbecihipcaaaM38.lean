/- MachineSteps: the plain law; the law over what is handed over. -/
import Derived.Test.YteolbecihipcaaaM32
import Derived.Test.YteolbecihipcaaaM12
open Go Go.Proofs Go.RowKit Go.ChangeShapes Go.WideShapes
namespace Go.Proofs.Yteolbecihipcaaa.Sx.M5
set_option linter.unusedVariables false
set_option linter.unusedSimpArgs false
theorem eqA_self {f : Nat → Int} : ∀ (n i : Nat), eqA f f n i = true
  | 0, _ => rfl
  | n + 1, i => by show (f i == f i && eqA f f n (i + 1)) = true; rw [beq_self_eq_true, eqA_self n]; rfl
theorem ints_self (a : List Int) : ints_s a a = true := by
  have key : ∀ (m i : Nat), a.length - i < m → ints_l0 a a m i = true := by
    intro m
    induction m with
    | zero => intro i hm; exact absurd hm (Nat.not_lt_zero _)
    | succ m ih =>
      intro i hm
      rw [ints_l0]
      by_cases c : (i : Int) < a.length
      · rw [decide_eq_true c]
        simp only [cond_true, bne_self_eq_false, cond_false]
        exact ih (i + 1) (by omega)
      · rw [decide_eq_false c]; rfl
  unfold ints_s
  rw [bne_self_eq_false]
  exact key _ 0 (by omega)
theorem same_self (pl : Int) (regs : Nat → Int) (mem os : List Int) : same_s pl regs mem os pl regs mem os = true := by
  unfold same_s
  rw [beq_self_eq_true, beq_self_eq_true, eqA_self, ints_self]
  rfl
theorem lSte_true (p : Img) (inp : List Int) (pl : Int) (regs : Nat → Int) (mem os : List Int) (hI : ImmU p) (hB : Bytes mem) (hR : ∀ j, j < 8 → 0 ≤ regs j ∧ regs j < 18446744073709551616) : lSte_s p inp pl regs mem os = true := by
  unfold lSte_s
  refine bifP (P := fun b => b = true) (fun _ => rfl) fun h1 => ?_
  refine bifP (P := fun b => b = true) (fun _ => rfl) fun _ => ?_
  refine bifP (P := fun b => b = true) (fun _ => rfl) fun h2 => ?_
  refine bifP (P := fun b => b = true) (fun _ => rfl) fun _ => ?_
  refine bifP (P := fun b => b = true) (fun _ => rfl) fun _ => ?_
  refine bifP (P := fun b => b = true) (fun _ => rfl) fun h3 => ?_
  have F := sF (inp := inp) hI hB hR h1 (notF h2) (notF h3)
  have F0 := sF0 (inp := inp) hI h1 (notF h2)
  rw [F.same, F0.start, same_self, same_self, beq_self_eq_true]
  rfl
section
variable {H : Type} {enc : TypeId × Value → H} {w : World} {base : Nat} {spare : Nat → Bool} {held : Bool}
/-- A state as it is handed over. -/
abbrev StOk (regs : Nat → Int) (mem : List Int) : Prop := (∀ j, j < 8 → 0 ≤ regs j ∧ regs j < 18446744073709551616) ∧ Bytes mem
set_option maxRecDepth 100000 in
theorem open_state {r : Reach} {b0 : Nat} {v : Value} {d : DataW H} {p : List MemPlace} (hv : Value.okWide Try.prog w r b0 44 v) (h : DataW.Trod enc Try.prog w base spare held 44 v d p) : ∃ (pl : Int) (regs : Nat → Int) (mem os : List Int), StOk regs mem ∧ ∀ ρ, Rep ρ (fun b => w.heap[b]?) (.agg (cat [.v (.int .i64 pl)] (cat (arrA aU 8 regs) [.ro 1 mem.length (mem.map eb), .ro 1 os.length (os.map ei)]))) v := by
  obtain ⟨cs, rfl, _⟩ := okWide_struct Try.underlying44 hv
  obtain ⟨fuel, h⟩ := h
  obtain ⟨xs, q, _, _, hlen, hxl, hi⟩ := DataW.trod_struct Try.underlying44 h
  have hl : cs.toList.length = 11 := hlen.trans (by kernel_rfl)
  have c3 : Try.prog.cellsOf 3 = 1 := by kernel_rfl
  have c32 : Try.prog.cellsOf 32 = 8 := by kernel_rfl
  have c22 : Try.prog.cellsOf 22 = 1 := by kernel_rfl
  have c23 : Try.prog.cellsOf 23 = 1 := by kernel_rfl
  have hc : (Value.agg cs).cells.toList = cs.toList := rfl
  rw [hc] at hi
  have h0 : DataW.trod enc Try.prog w base spare held q 3 ((cs.toList.drop 0).take (Try.prog.cellsOf 3)) = xs[0]? := hi 0 _ rfl
  have h1 : DataW.trod enc Try.prog w base spare held q 32 ((cs.toList.drop 1).take (Try.prog.cellsOf 32)) = xs[1]? := hi 1 _ rfl
  have h2 : DataW.trod enc Try.prog w base spare held q 22 ((cs.toList.drop 9).take (Try.prog.cellsOf 22)) = xs[2]? := hi 2 _ rfl
  have h3 : DataW.trod enc Try.prog w base spare held q 23 ((cs.toList.drop 10).take (Try.prog.cellsOf 23)) = xs[3]? := hi 3 _ rfl
  simp only [c3, c32, c22, c23] at h0 h1 h2 h3
  have hx : xs.length = 4 := hxl
  obtain ⟨l, rfl⟩ : ∃ l, cs = List.toArray l := ⟨cs.toList, by simp⟩
  simp only [] at hl h0 h1 h2 h3
  match l, hl, xs, hx, h0, h1, h2, h3 with
  | [a0, r0, r1, r2, r3, r4, r5, r6, r7, a2, a3], _, [x0, x1, x2, x3], _, h0, h1, h2, h3 =>
    simp only [List.drop_zero, List.drop_succ_cons, List.take_succ_cons, List.take_zero, List.getElem?_cons_zero, List.getElem?_cons_succ] at h0 h1 h2 h3
    obtain ⟨m, e0, _, _⟩ := DataW.trod_int Try.underlying3 h0
    obtain ⟨ns, hn, e1, hw⟩ := flat_open (P := Try.prog) 8 32 [.u64, .u64, .u64, .u64, .u64, .u64, .u64, .u64] q _ _ (by kernel_rfl) h1
    obtain ⟨A3, n3, p3, e3⟩ := slice_cell Try.underlying22 h2
    obtain ⟨A4, n4, p4, e4⟩ := slice_cell Try.underlying23 h3
    match ns, hn, e1, hw with
    | [n0, n1, n2, n3', n4', n5, n6, n7], _, e1, hw =>
      simp only [cells, List.cons.injEq, and_true] at e0 e1 e3 e4
      obtain ⟨g0, g1, g2, g3, g4, g5, g6, g7⟩ := e1
      subst e0 e3 e4 g0 g1 g2 g3 g4 g5 g6 g7
      obtain ⟨da, hd, q3⟩ := bytes_ro h2
      obtain ⟨fu, q4⟩ := ints_ro h3
      refine ⟨m, fun j => [n0, n1, n2, n3', n4', n5, n6, n7].getD j 0, da, fu, ⟨fun j hj => ?_, hd⟩, fun ρ => .agg _ _ (.cons (.v _) (.cons (.v _) (.cons (.v _) (.cons (.v _) (.cons (.v _) (.cons (.v _) (.cons (.v _) (.cons (.v _) (.cons (.v _) (.cons (q3 ρ) (.cons (q4 ρ) .nil)))))))))))⟩
      obtain ⟨w0, w1, w2, w3, w4, w5, w6, w7, _⟩ := hw
      match j, hj with
      | 0, _ => exact u64_of_wf w0
      | 1, _ => exact u64_of_wf w1
      | 2, _ => exact u64_of_wf w2
      | 3, _ => exact u64_of_wf w3
      | 4, _ => exact u64_of_wf w4
      | 5, _ => exact u64_of_wf w5
      | 6, _ => exact u64_of_wf w6
      | 7, _ => exact u64_of_wf w7
end
theorem immU_of {p : Img} (h : ImgOk p) : ImmU p := by
  intro j
  by_cases c : j < p.code.length
  · exact h.2 _ (by rw [List.getD_eq_getElem?_getD, List.getElem?_eq_getElem c]; exact List.getElem_mem c)
  · rw [List.getD_eq_getElem?_getD, List.getElem?_eq_none (by omega)]; exact ⟨Int.le_refl 0, by decide⟩
theorem lSteL_true (p : Img) (inp : List Int) (pl : Int) (regs : Nat → Int) (mem os : List Int) (b0 : ImgOk p) (b1 : Bytes inp) (b2 : StOk regs mem) : Ok Try.prog 5 [.agg [.v (.int .i64 p.mem), .v (.int .i64 p.stack), .v (.int .i64 p.input), .ro 1 p.data.length ((p.data).map eb), .ro 1 p.funs.length ((p.funs).map ei), .ro 5 p.code.length ((p.code).map eIns)], .ro 1 inp.length ((inp).map eb), .agg (cat [.v (.int .i64 pl)] (cat (arrA aU 8 regs) [.ro 1 mem.length ((mem).map eb), .ro 1 os.length ((os).map ei)]))] (look []) (.v (.bool true)) (postOf [] []) := by
  have := lSte_ok p inp pl regs mem os (immU_of b0) b2.2 b2.1
  rwa [lSte_true p inp pl regs mem os (immU_of b0) b2.2 b2.1] at this
end Go.Proofs.Yteolbecihipcaaa.Sx.M5
