/- What the functions of a chapter compute, as contracts; written by a program of this session. -/
import Derived.Test.YteolbecihipcaaaM37
import Derived.Test.YteolbecihipcaaaM9
open Go Go.Proofs Go.RowKit
namespace Go.Proofs.Yteolbecihipcaaa.Sx.M5
set_option linter.unusedVariables false
set_option linter.unusedSimpArgs false
def same_s (pl : Int) (regs : Nat → Int) (mem os : List Int) (pl2 : Int) (regs2 : Nat → Int) (mem2 os2 : List Int) : Bool := (bif pl == pl2 then (bif eqA regs regs2 8 0 then (bif (strOfNums mem : ByteArray).toList == (strOfNums mem2 : ByteArray).toList then (ints_s os os2) else false) else false) else false)
set_option maxRecDepth 100000 in
theorem same_ok (pl : Int) (regs : Nat → Int) (mem os : List Int) (pl2 : Int) (regs2 : Nat → Int) (mem2 os2 : List Int) (h1 : mem.length < 2 ^ 40) (h2 : os.length < 2 ^ 40) (h3 : mem2.length < 2 ^ 40) (h4 : os2.length < 2 ^ 40) : Ok Try.prog 16 [.agg (cat [.v (.int .i64 pl)] (cat (arrA aU 8 regs) [.ro 1 mem.length ((mem).map eb), .ro 1 os.length ((os).map ei)])), .agg (cat [.v (.int .i64 pl2)] (cat (arrA aU 8 regs2) [.ro 1 mem2.length ((mem2).map eb), .ro 1 os2.length ((os2).map ei)]))] (look []) (.v (.bool (same_s pl regs mem os pl2 regs2 mem2 os2))) (postOf [] []) := by
  unfold same_s
  cases h1004 : (pl == pl2)
  · have p1004 := ne_of_beq_false h1004
    exact ok_run Try.func16 rfl rfl mixed 400 [(0, .nm 620), (1, .nm 621), (1004, .b false)] (all1 h1004) (by kernel_rfl)
  · have p1004 := eq_of_beq h1004
    cases h1010 : (eqA regs regs2 8 0)
    · exact ok_run Try.func16 rfl rfl mixed 400 [(0, .nm 620), (1, .nm 621), (1004, .b true), (1010, .b false)] (all2 h1004 h1010) (by kernel_rfl)
    · cases h1019 : ((strOfNums mem : ByteArray).toList == (strOfNums mem2 : ByteArray).toList)
      · have p1019 := ne_of_beq_false h1019
        exact ok_run Try.func16 rfl rfl mixed 400 [(0, .nm 620), (1, .nm 621), (1004, .b true), (1010, .b true), (1015, .nums mem), (1018, .nums mem2), (1019, .b false)] (all5 h1004 h1010 (strE mem) (strE mem2) h1019) (by kernel_rfl)
      · have p1019 := eq_of_beq h1019
        exact ok_run Try.func16 rfl rfl mixed 400 [(0, .nm 620), (1, .nm 621), (1004, .b true), (1010, .b true), (1015, .nums mem), (1018, .nums mem2), (1019, .b true), (1026, .call [] [] (.v (.bool (ints_s os os2))))] (all6 h1004 h1010 (strE mem) (strE mem2) h1019 (ints_ok os os2 (by (first | (first | omega | (simp only [List.length_set, List.length_append, List.length_cons, List.length_nil, List.length_map, List.length_take, List.length_drop, List.length_replicate] <;> omega) | (simp only [List.length_set, List.length_append, List.length_cons, List.length_nil, List.length_map, List.length_take, List.length_drop, List.length_replicate] at * <;> omega)) | (simp only [wrap_u64] at * <;> omega))) (by (first | (first | omega | (simp only [List.length_set, List.length_append, List.length_cons, List.length_nil, List.length_map, List.length_take, List.length_drop, List.length_replicate] <;> omega) | (simp only [List.length_set, List.length_append, List.length_cons, List.length_nil, List.length_map, List.length_take, List.length_drop, List.length_replicate] at * <;> omega)) | (simp only [wrap_u64] at * <;> omega))))) (by kernel_rfl)

theorem take_one {l : List Int} {k : Nat} (h : k < l.length) : l.take (k + 1) = l.take k ++ [l.getD k 0] := by
  rw [List.take_add_one, List.getElem?_eq_getElem h, List.getD_eq_getElem?_getD, List.getElem?_eq_getElem h]
  rfl
theorem rsta_eq {p : Img} (h6 : 0 ≤ p.mem ∧ p.mem ≤ 64) (hd : (p.data.length : Int) ≤ p.mem) : rsta_s p = (0, (start_s p).1, (start_s p).2, []) := by
  obtain ⟨N, hN⟩ : ∃ N : Nat, p.mem = N := ⟨p.mem.toNat, by omega⟩
  obtain ⟨L, hL⟩ : ∃ L, (start_s p).2 = L := ⟨_, rfl⟩
  have e0 : L = p.data ++ (List.replicate N (0 : Int)).drop p.data.length := by
    rw [← hL]
    unfold start_s
    rw [hN, show (max 0 (min (N : Int) 64)).toNat = N by omega]
    simp only [List.length_replicate]
    rw [List.take_of_length_le (by omega)]
  have hl : L.length = N := by rw [e0, List.length_append, List.length_drop, List.length_replicate]; omega
  have hg : ∀ k, k < N → L.getD k 0 = if k < p.data.length then p.data.getD k 0 else 0 := fun k hk => by
    rw [e0]
    by_cases c : k < p.data.length
    · rw [if_pos c, List.getD_eq_getElem?_getD, List.getElem?_append_left c, List.getD_eq_getElem?_getD]
    · rw [if_neg c, List.getD_eq_getElem?_getD, List.getElem?_append_right (by omega), List.getElem?_drop, List.getElem?_replicate]
      split <;> rfl
  have key : ∀ (m k : Nat), k ≤ N → N - k < m → rsta_l0 p m k (L.take k) = (0, (fun _ => 0), L, []) := by
    intro m
    induction m with
    | zero => intro k _ hm; exact absurd hm (Nat.not_lt_zero _)
    | succ m ih =>
      intro k hk hm
      rw [rsta_l0, hN]
      by_cases c : k < N
      · rw [decide_eq_true (show (k : Int) < (N : Int) by omega), Int.toNat_natCast]
        simp only [cond_true]
        have hg := hg k c
        have := ih (k + 1) (by omega) (by omega)
        rw [take_one (by omega), hg] at this
        by_cases c2 : k < p.data.length
        · rw [decide_eq_true (show (k : Int) < p.data.length by omega)]
          rw [if_pos c2] at this
          exact this
        · rw [decide_eq_false (show ¬ (k : Int) < p.data.length by omega)]
          rw [if_neg c2] at this
          exact this
      · rw [decide_eq_false (show ¬ (k : Int) < (N : Int) by omega), List.take_of_length_le (by omega)]
        rfl
  rw [hL]
  unfold rsta_s
  exact key _ 0 (Nat.zero_le _) (by omega)
/-- What is so where the law's guards let a state in. -/
structure SF (p : Img) (inp : List Int) (pl : Int) (regs : Nat → Int) (mem os : List Int) : Prop where
  small : Small p
  finp : inp.length < 2 ^ 40
  imm : ImmOk p
  V : ValidP p
  jmp : ∀ j, j < p.code.length → (p.code.getD j default).op = 21 ∨ (p.code.getD j default).op = 22 → (p.code.getD j default).imm < 2 ^ 40
  fpl : 0 ≤ pl ∧ pl < p.code.length
  fmem : mem.length ≤ 64
  fos : os.length ≤ 16
  mem40 : mem.length < 2 ^ 40
  os39 : os.length < 2 ^ 39
  same : step_s p inp pl regs mem os = rstp_s p inp pl regs mem os
  s1 : (step_s p inp pl regs mem os).2.2.1.length < 2 ^ 40
  s2 : (step_s p inp pl regs mem os).2.2.2.1.length < 2 ^ 40
  s3 : (rstp_s p inp pl regs mem os).2.2.1.length < 2 ^ 40
  s4 : (rstp_s p inp pl regs mem os).2.2.2.1.length < 2 ^ 40
structure SF0 (p : Img) : Prop where
  memp : 0 ≤ p.mem ∧ p.mem ≤ 64
  start : rsta_s p = (0, (start_s p).1, (start_s p).2, [])
  t3 : (rsta_s p).2.2.1.length < 2 ^ 40
  t4 : (rsta_s p).2.2.2.length < 2 ^ 40
theorem sF0 {p : Img} {inp : List Int} (hI : ImmU p) (hg : great_s p inp 0 = false) (hr : right_s p = true) : SF0 p := by
  obtain ⟨r, he, hm, hs, hst, hd⟩ := right_all hI hr
  have e := rsta_eq hm hd
  refine ⟨hm, e, ?_, ?_⟩
  · rw [e]
    have := start_len p
    show (start_s p).2.length < _
    omega
  · rw [e]
    show ([] : List Int).length < _
    decide
theorem sF {p : Img} {inp : List Int} {pl : Int} {regs : Nat → Int} {mem os : List Int} (hI : ImmU p) (hB : Bytes mem) (hR : ∀ j, j < 8 → 0 ≤ regs j ∧ regs j < 18446744073709551616) (hg : great_s p inp 0 = false) (hr : right_s p = true) (hq : rrig_s p pl regs mem os = true) : SF p inp pl regs mem os := by
  obtain ⟨r, he, hm, hs, hst, hd⟩ := right_all hI hr
  have hG := great_f hg
  have hI0 : ImmOk p := fun j => (hI j).1
  have V := enc_valid hG.1 hI0 he
  obtain ⟨w1, w2, w3, w4⟩ := rrig_whole he hq
  have hml : mem.length ≤ 64 := by omega
  have hol : os.length ≤ 16 := by omega
  have e := step_same (inp := inp) r V hst w1 w2.1 w2.2 hml hB hR
  have hc := r.code
  have g := step_rng (p := p) (inp := inp) (pl := pl) (regs := regs) (mem := mem) (os := os) hG.1 hI0
  refine ⟨hG.1, by omega, hI0, V, fun j hj ho => ?_, w2, hml, hol, by omega, by omega, e, by omega, by omega, by rw [← e]; omega, by rw [← e]; omega⟩
  have := leap' r (x := (j : Int)) (by omega) (by omega) (hst j hj) (by rw [Int.toNat_natCast]; exact ho)
  rw [Int.toNat_natCast] at this
  omega

def lSte_s (p : Img) (inp : List Int) (pl : Int) (regs : Nat → Int) (mem os : List Int) : Bool := (bif (great_s p inp 0) then true else (bif decide ((inp.length : Int) > p.input) then true else (bif !(right_s p) then true else (bif decide ((mem.length : Int) > (100 : Int)) then true else (bif decide ((os.length : Int) > (40 : Int)) then true else (bif !(rrig_s p pl regs mem os) then true else (bif (same_s ((step_s p inp pl regs mem os).1) ((step_s p inp pl regs mem os).2.1) ((step_s p inp pl regs mem os).2.2.1) ((step_s p inp pl regs mem os).2.2.2.1) ((rstp_s p inp pl regs mem os).1) ((rstp_s p inp pl regs mem os).2.1) ((rstp_s p inp pl regs mem os).2.2.1) ((rstp_s p inp pl regs mem os).2.2.2.1)) then (bif ((step_s p inp pl regs mem os).2.2.2.2) == ((rstp_s p inp pl regs mem os).2.2.2.2) then (same_s 0 ((start_s p).1) ((start_s p).2) ([] : List Int) ((rsta_s p).1) ((rsta_s p).2.1) ((rsta_s p).2.2.1) ((rsta_s p).2.2.2)) else false) else false)))))))
set_option maxRecDepth 100000 in
theorem lSte_ok (p : Img) (inp : List Int) (pl : Int) (regs : Nat → Int) (mem os : List Int) (hI : ImmU p) (hB : Bytes mem) (hR : ∀ j, j < 8 → 0 ≤ regs j ∧ regs j < 18446744073709551616) : Ok Try.prog 5 [.agg [.v (.int .i64 p.mem), .v (.int .i64 p.stack), .v (.int .i64 p.input), .ro 1 p.data.length ((p.data).map eb), .ro 1 p.funs.length ((p.funs).map ei), .ro 5 p.code.length ((p.code).map eIns)], .ro 1 inp.length ((inp).map eb), .agg (cat [.v (.int .i64 pl)] (cat (arrA aU 8 regs) [.ro 1 mem.length ((mem).map eb), .ro 1 os.length ((os).map ei)]))] (look []) (.v (.bool (lSte_s p inp pl regs mem os))) (postOf [] []) := by
  unfold lSte_s
  cases h3002 : ((great_s p inp 0))
  · have p3002 := great_f h3002
    cases h3008 : (decide ((inp.length : Int) > p.input))
    · have p3008 := of_decide_eq_false h3008
      cases h3013 : (!(right_s p))
      · have p3013 := notF h3013
        cases h6003 : (decide ((mem.length : Int) > (100 : Int)))
        · have p6003 := of_decide_eq_false h6003
          cases h6008 : (decide ((os.length : Int) > (40 : Int)))
          · have p6008 := of_decide_eq_false h6008
            cases h6014 : (!(rrig_s p pl regs mem os))
            · have p6014 := notF h6014
              cases h10002 : ((same_s ((step_s p inp pl regs mem os).1) ((step_s p inp pl regs mem os).2.1) ((step_s p inp pl regs mem os).2.2.1) ((step_s p inp pl regs mem os).2.2.2.1) ((rstp_s p inp pl regs mem os).1) ((rstp_s p inp pl regs mem os).2.1) ((rstp_s p inp pl regs mem os).2.2.1) ((rstp_s p inp pl regs mem os).2.2.2.1)))
              · exact ok_run Try.func5 rfl rfl mixed 400 [(0, .nm 620), (1, .nm 621), (1000, .call [] [] (.v (.bool true))), (3002, .two (.call [] [] (.v (.bool (great_s p inp 0)))) (.b false)), (3008, .b false), (3012, .call [] [] (.v (.bool (right_s p)))), (3013, .b false), (5009, .nm 622), (6003, .b false), (6008, .b false), (6013, .call [] [] (.v (.bool (rrig_s p pl regs mem os)))), (6014, .b false), (8003, .call [] [] (.tup [.agg (cat [.v (.int .i64 ((step_s p inp pl regs mem os).1))] (cat (arrA aU 8 ((step_s p inp pl regs mem os).2.1)) [.ro 1 (((step_s p inp pl regs mem os).2.2.1).length) (((step_s p inp pl regs mem os).2.2.1).map eb), .ro 1 (((step_s p inp pl regs mem os).2.2.2.1).length) (((step_s p inp pl regs mem os).2.2.2.1).map ei)])), .v (.int .i64 ((step_s p inp pl regs mem os).2.2.2.2))])), (8007, .nm 701), (9003, .call [] [] (.tup [.agg (cat [.v (.int .i64 ((rstp_s p inp pl regs mem os).1))] (cat (arrA aU 8 ((rstp_s p inp pl regs mem os).2.1)) [.ro 1 (((rstp_s p inp pl regs mem os).2.2.1).length) (((rstp_s p inp pl regs mem os).2.2.1).map eb), .ro 1 (((rstp_s p inp pl regs mem os).2.2.2.1).length) (((rstp_s p inp pl regs mem os).2.2.2.1).map ei)])), .v (.int .i64 ((rstp_s p inp pl regs mem os).2.2.2.2))])), (9007, .nm 702), (10002, .two (.call [] [] (.v (.bool (same_s ((step_s p inp pl regs mem os).1) ((step_s p inp pl regs mem os).2.1) ((step_s p inp pl regs mem os).2.2.1) ((step_s p inp pl regs mem os).2.2.2.1) ((rstp_s p inp pl regs mem os).1) ((rstp_s p inp pl regs mem os).2.1) ((rstp_s p inp pl regs mem os).2.2.1) ((rstp_s p inp pl regs mem os).2.2.2.1))))) (.b false))] (.cons awakeA (.cons (great_ok p inp 0 ) (.cons h3002 (.cons h3008 (.cons (right_ok p (by first | assumption | exact (great_f (by assumption)).1)) (.cons h3013 (all8 h6003 h6008 (rrig_ok p pl regs mem os (great_f (by assumption)).1 (by (first | (first | omega | (simp only [List.length_set, List.length_append, List.length_cons, List.length_nil, List.length_map, List.length_take, List.length_drop, List.length_replicate] <;> omega) | (simp only [List.length_set, List.length_append, List.length_cons, List.length_nil, List.length_map, List.length_take, List.length_drop, List.length_replicate] at * <;> omega)) | (simp only [wrap_u64] at * <;> omega))) (by (first | (first | omega | (simp only [List.length_set, List.length_append, List.length_cons, List.length_nil, List.length_map, List.length_take, List.length_drop, List.length_replicate] <;> omega) | (simp only [List.length_set, List.length_append, List.length_cons, List.length_nil, List.length_map, List.length_take, List.length_drop, List.length_replicate] at * <;> omega)) | (simp only [wrap_u64] at * <;> omega)))) h6014 (step_ok p inp pl regs mem os (sF hI hB hR (by assumption) (by assumption) (by assumption)).small (sF hI hB hR (by assumption) (by assumption) (by assumption)).imm (sF hI hB hR (by assumption) (by assumption) (by assumption)).finp (sF hI hB hR (by assumption) (by assumption) (by assumption)).mem40 (sF hI hB hR (by assumption) (by assumption) (by assumption)).os39) (rstp_ok p inp pl regs mem os (sF hI hB hR (by assumption) (by assumption) (by assumption)).V (sF hI hB hR (by assumption) (by assumption) (by assumption)).imm (sF hI hB hR (by assumption) (by assumption) (by assumption)).jmp (sF hI hB hR (by assumption) (by assumption) (by assumption)).finp (sF hI hB hR (by assumption) (by assumption) (by assumption)).fpl (sF hI hB hR (by assumption) (by assumption) (by assumption)).fmem (sF hI hB hR (by assumption) (by assumption) (by assumption)).fos) (same_ok ((step_s p inp pl regs mem os).1) ((step_s p inp pl regs mem os).2.1) ((step_s p inp pl regs mem os).2.2.1) ((step_s p inp pl regs mem os).2.2.2.1) ((rstp_s p inp pl regs mem os).1) ((rstp_s p inp pl regs mem os).2.1) ((rstp_s p inp pl regs mem os).2.2.1) ((rstp_s p inp pl regs mem os).2.2.2.1) (sF hI hB hR (by assumption) (by assumption) (by assumption)).s1 (sF hI hB hR (by assumption) (by assumption) (by assumption)).s2 (sF hI hB hR (by assumption) (by assumption) (by assumption)).s3 (sF hI hB hR (by assumption) (by assumption) (by assumption)).s4) h10002))))))) (by kernel_rfl)
              · cases h10006 : (((step_s p inp pl regs mem os).2.2.2.2) == ((rstp_s p inp pl regs mem os).2.2.2.2))
                · have p10006 := ne_of_beq_false h10006
                  exact ok_run Try.func5 rfl rfl mixed 400 [(0, .nm 620), (1, .nm 621), (1000, .call [] [] (.v (.bool true))), (3002, .two (.call [] [] (.v (.bool (great_s p inp 0)))) (.b false)), (3008, .b false), (3012, .call [] [] (.v (.bool (right_s p)))), (3013, .b false), (5009, .nm 622), (6003, .b false), (6008, .b false), (6013, .call [] [] (.v (.bool (rrig_s p pl regs mem os)))), (6014, .b false), (8003, .call [] [] (.tup [.agg (cat [.v (.int .i64 ((step_s p inp pl regs mem os).1))] (cat (arrA aU 8 ((step_s p inp pl regs mem os).2.1)) [.ro 1 (((step_s p inp pl regs mem os).2.2.1).length) (((step_s p inp pl regs mem os).2.2.1).map eb), .ro 1 (((step_s p inp pl regs mem os).2.2.2.1).length) (((step_s p inp pl regs mem os).2.2.2.1).map ei)])), .v (.int .i64 ((step_s p inp pl regs mem os).2.2.2.2))])), (8007, .nm 701), (9003, .call [] [] (.tup [.agg (cat [.v (.int .i64 ((rstp_s p inp pl regs mem os).1))] (cat (arrA aU 8 ((rstp_s p inp pl regs mem os).2.1)) [.ro 1 (((rstp_s p inp pl regs mem os).2.2.1).length) (((rstp_s p inp pl regs mem os).2.2.1).map eb), .ro 1 (((rstp_s p inp pl regs mem os).2.2.2.1).length) (((rstp_s p inp pl regs mem os).2.2.2.1).map ei)])), .v (.int .i64 ((rstp_s p inp pl regs mem os).2.2.2.2))])), (9007, .nm 702), (10002, .two (.call [] [] (.v (.bool (same_s ((step_s p inp pl regs mem os).1) ((step_s p inp pl regs mem os).2.1) ((step_s p inp pl regs mem os).2.2.1) ((step_s p inp pl regs mem os).2.2.2.1) ((rstp_s p inp pl regs mem os).1) ((rstp_s p inp pl regs mem os).2.1) ((rstp_s p inp pl regs mem os).2.2.1) ((rstp_s p inp pl regs mem os).2.2.2.1))))) (.b true)), (10006, .b false)] (.cons awakeA (.cons (great_ok p inp 0 ) (.cons h3002 (.cons h3008 (.cons (right_ok p (by first | assumption | exact (great_f (by assumption)).1)) (.cons h3013 (.cons h6003 (all8 h6008 (rrig_ok p pl regs mem os (great_f (by assumption)).1 (by (first | (first | omega | (simp only [List.length_set, List.length_append, List.length_cons, List.length_nil, List.length_map, List.length_take, List.length_drop, List.length_replicate] <;> omega) | (simp only [List.length_set, List.length_append, List.length_cons, List.length_nil, List.length_map, List.length_take, List.length_drop, List.length_replicate] at * <;> omega)) | (simp only [wrap_u64] at * <;> omega))) (by (first | (first | omega | (simp only [List.length_set, List.length_append, List.length_cons, List.length_nil, List.length_map, List.length_take, List.length_drop, List.length_replicate] <;> omega) | (simp only [List.length_set, List.length_append, List.length_cons, List.length_nil, List.length_map, List.length_take, List.length_drop, List.length_replicate] at * <;> omega)) | (simp only [wrap_u64] at * <;> omega)))) h6014 (step_ok p inp pl regs mem os (sF hI hB hR (by assumption) (by assumption) (by assumption)).small (sF hI hB hR (by assumption) (by assumption) (by assumption)).imm (sF hI hB hR (by assumption) (by assumption) (by assumption)).finp (sF hI hB hR (by assumption) (by assumption) (by assumption)).mem40 (sF hI hB hR (by assumption) (by assumption) (by assumption)).os39) (rstp_ok p inp pl regs mem os (sF hI hB hR (by assumption) (by assumption) (by assumption)).V (sF hI hB hR (by assumption) (by assumption) (by assumption)).imm (sF hI hB hR (by assumption) (by assumption) (by assumption)).jmp (sF hI hB hR (by assumption) (by assumption) (by assumption)).finp (sF hI hB hR (by assumption) (by assumption) (by assumption)).fpl (sF hI hB hR (by assumption) (by assumption) (by assumption)).fmem (sF hI hB hR (by assumption) (by assumption) (by assumption)).fos) (same_ok ((step_s p inp pl regs mem os).1) ((step_s p inp pl regs mem os).2.1) ((step_s p inp pl regs mem os).2.2.1) ((step_s p inp pl regs mem os).2.2.2.1) ((rstp_s p inp pl regs mem os).1) ((rstp_s p inp pl regs mem os).2.1) ((rstp_s p inp pl regs mem os).2.2.1) ((rstp_s p inp pl regs mem os).2.2.2.1) (sF hI hB hR (by assumption) (by assumption) (by assumption)).s1 (sF hI hB hR (by assumption) (by assumption) (by assumption)).s2 (sF hI hB hR (by assumption) (by assumption) (by assumption)).s3 (sF hI hB hR (by assumption) (by assumption) (by assumption)).s4) h10002 h10006)))))))) (by kernel_rfl)
                · have p10006 := eq_of_beq h10006
                  exact ok_run Try.func5 rfl rfl mixed 400 [(0, .nm 620), (1, .nm 621), (1000, .call [] [] (.v (.bool true))), (3002, .two (.call [] [] (.v (.bool (great_s p inp 0)))) (.b false)), (3008, .b false), (3012, .call [] [] (.v (.bool (right_s p)))), (3013, .b false), (5009, .nm 622), (6003, .b false), (6008, .b false), (6013, .call [] [] (.v (.bool (rrig_s p pl regs mem os)))), (6014, .b false), (8003, .call [] [] (.tup [.agg (cat [.v (.int .i64 ((step_s p inp pl regs mem os).1))] (cat (arrA aU 8 ((step_s p inp pl regs mem os).2.1)) [.ro 1 (((step_s p inp pl regs mem os).2.2.1).length) (((step_s p inp pl regs mem os).2.2.1).map eb), .ro 1 (((step_s p inp pl regs mem os).2.2.2.1).length) (((step_s p inp pl regs mem os).2.2.2.1).map ei)])), .v (.int .i64 ((step_s p inp pl regs mem os).2.2.2.2))])), (8007, .nm 701), (9003, .call [] [] (.tup [.agg (cat [.v (.int .i64 ((rstp_s p inp pl regs mem os).1))] (cat (arrA aU 8 ((rstp_s p inp pl regs mem os).2.1)) [.ro 1 (((rstp_s p inp pl regs mem os).2.2.1).length) (((rstp_s p inp pl regs mem os).2.2.1).map eb), .ro 1 (((rstp_s p inp pl regs mem os).2.2.2.1).length) (((rstp_s p inp pl regs mem os).2.2.2.1).map ei)])), .v (.int .i64 ((rstp_s p inp pl regs mem os).2.2.2.2))])), (9007, .nm 702), (10002, .two (.call [] [] (.v (.bool (same_s ((step_s p inp pl regs mem os).1) ((step_s p inp pl regs mem os).2.1) ((step_s p inp pl regs mem os).2.2.1) ((step_s p inp pl regs mem os).2.2.2.1) ((rstp_s p inp pl regs mem os).1) ((rstp_s p inp pl regs mem os).2.1) ((rstp_s p inp pl regs mem os).2.2.1) ((rstp_s p inp pl regs mem os).2.2.2.1))))) (.b true)), (10006, .b true), (10010, .call [] [(503, some (.row 1 5 (((start_s p).2).length) (((start_s p).2).map eb)))] (.agg (cat [.v (.int .i64 0)] (cat (arrA aU 8 ((start_s p).1)) [.own 503, .v (.slice none 0 0)])))), (10012, .call [] [] (.agg (cat [.v (.int .i64 ((rsta_s p).1))] (cat (arrA aU 8 ((rsta_s p).2.1)) [.ro 1 (((rsta_s p).2.2.1).length) (((rsta_s p).2.2.1).map eb), .ro 1 (((rsta_s p).2.2.2).length) (((rsta_s p).2.2.2).map ei)])))), (10013, .call [503] [(503, none)] (.v (.bool (same_s 0 ((start_s p).1) ((start_s p).2) ([] : List Int) ((rsta_s p).1) ((rsta_s p).2.1) ((rsta_s p).2.2.1) ((rsta_s p).2.2.2)))))] (.cons awakeA (.cons (great_ok p inp 0 ) (.cons h3002 (.cons h3008 (.cons (right_ok p (by first | assumption | exact (great_f (by assumption)).1)) (.cons h3013 (.cons h6003 (.cons h6008 (.cons (rrig_ok p pl regs mem os (great_f (by assumption)).1 (by (first | (first | omega | (simp only [List.length_set, List.length_append, List.length_cons, List.length_nil, List.length_map, List.length_take, List.length_drop, List.length_replicate] <;> omega) | (simp only [List.length_set, List.length_append, List.length_cons, List.length_nil, List.length_map, List.length_take, List.length_drop, List.length_replicate] at * <;> omega)) | (simp only [wrap_u64] at * <;> omega))) (by (first | (first | omega | (simp only [List.length_set, List.length_append, List.length_cons, List.length_nil, List.length_map, List.length_take, List.length_drop, List.length_replicate] <;> omega) | (simp only [List.length_set, List.length_append, List.length_cons, List.length_nil, List.length_map, List.length_take, List.length_drop, List.length_replicate] at * <;> omega)) | (simp only [wrap_u64] at * <;> omega)))) (.cons h6014 (all8 (step_ok p inp pl regs mem os (sF hI hB hR (by assumption) (by assumption) (by assumption)).small (sF hI hB hR (by assumption) (by assumption) (by assumption)).imm (sF hI hB hR (by assumption) (by assumption) (by assumption)).finp (sF hI hB hR (by assumption) (by assumption) (by assumption)).mem40 (sF hI hB hR (by assumption) (by assumption) (by assumption)).os39) (rstp_ok p inp pl regs mem os (sF hI hB hR (by assumption) (by assumption) (by assumption)).V (sF hI hB hR (by assumption) (by assumption) (by assumption)).imm (sF hI hB hR (by assumption) (by assumption) (by assumption)).jmp (sF hI hB hR (by assumption) (by assumption) (by assumption)).finp (sF hI hB hR (by assumption) (by assumption) (by assumption)).fpl (sF hI hB hR (by assumption) (by assumption) (by assumption)).fmem (sF hI hB hR (by assumption) (by assumption) (by assumption)).fos) (same_ok ((step_s p inp pl regs mem os).1) ((step_s p inp pl regs mem os).2.1) ((step_s p inp pl regs mem os).2.2.1) ((step_s p inp pl regs mem os).2.2.2.1) ((rstp_s p inp pl regs mem os).1) ((rstp_s p inp pl regs mem os).2.1) ((rstp_s p inp pl regs mem os).2.2.1) ((rstp_s p inp pl regs mem os).2.2.2.1) (sF hI hB hR (by assumption) (by assumption) (by assumption)).s1 (sF hI hB hR (by assumption) (by assumption) (by assumption)).s2 (sF hI hB hR (by assumption) (by assumption) (by assumption)).s3 (sF hI hB hR (by assumption) (by assumption) (by assumption)).s4) h10002 h10006 (start_ok p (great_f (by assumption)).1) (rsta_ok p (great_f (by assumption)).1 (sF0 hI (by assumption) (by assumption)).memp) (Ok.eat1 (args := [.agg (cat [.v (.int .i64 0)] (cat (arrA aU 8 ((start_s p).1)) [.own 503, .v (.slice none 0 0)])), .agg (cat [.v (.int .i64 ((rsta_s p).1))] (cat (arrA aU 8 ((rsta_s p).2.1)) [.ro 1 (((rsta_s p).2.2.1).length) (((rsta_s p).2.2.1).map eb), .ro 1 (((rsta_s p).2.2.2).length) (((rsta_s p).2.2.2).map ei)]))]) (n := 503) (e := 5) (sz := 1) (k := (((start_s p).2).length)) (rows := (((start_s p).2).map eb)) (Ok.args (args := [.agg (cat [.v (.int .i64 0)] (cat (arrA aU 8 ((start_s p).1)) [.ro 1 (((start_s p).2).length) (((start_s p).2).map eb), .v (.slice none 0 0)])), .agg (cat [.v (.int .i64 ((rsta_s p).1))] (cat (arrA aU 8 ((rsta_s p).2.1)) [.ro 1 (((rsta_s p).2.2.1).length) (((rsta_s p).2.2.1).map eb), .ro 1 (((rsta_s p).2.2.2).length) (((rsta_s p).2.2.2).map ei)]))]) (same_ok 0 ((start_s p).1) ((start_s p).2) ([] : List Int) ((rsta_s p).1) ((rsta_s p).2.1) ((rsta_s p).2.2.1) ((rsta_s p).2.2.2) (by have := start_len p; omega) (by decide) (sF0 hI (by assumption) (by assumption)).t3 (sF0 hI (by assumption) (by assumption)).t4) (by repeat (first | exact LeA.refl _ | exact LeA.nil _ | exact LeL.nil | apply LeA.tup | apply LeA.agg | apply LeA.vagg | apply LeL.cons | apply LeA.ifc))) rfl)))))))))))) (by kernel_rfl)
            · have p6014 := notT h6014
              exact ok_run Try.func5 rfl rfl mixed 400 [(0, .nm 620), (1, .nm 621), (1000, .call [] [] (.v (.bool true))), (3002, .two (.call [] [] (.v (.bool (great_s p inp 0)))) (.b false)), (3008, .b false), (3012, .call [] [] (.v (.bool (right_s p)))), (3013, .b false), (5009, .nm 622), (6003, .b false), (6008, .b false), (6013, .call [] [] (.v (.bool (rrig_s p pl regs mem os)))), (6014, .b true)] (.cons awakeA (.cons (great_ok p inp 0 ) (all8 h3002 h3008 (right_ok p (by first | assumption | exact (great_f (by assumption)).1)) h3013 h6003 h6008 (rrig_ok p pl regs mem os (great_f (by assumption)).1 (by (first | (first | omega | (simp only [List.length_set, List.length_append, List.length_cons, List.length_nil, List.length_map, List.length_take, List.length_drop, List.length_replicate] <;> omega) | (simp only [List.length_set, List.length_append, List.length_cons, List.length_nil, List.length_map, List.length_take, List.length_drop, List.length_replicate] at * <;> omega)) | (simp only [wrap_u64] at * <;> omega))) (by (first | (first | omega | (simp only [List.length_set, List.length_append, List.length_cons, List.length_nil, List.length_map, List.length_take, List.length_drop, List.length_replicate] <;> omega) | (simp only [List.length_set, List.length_append, List.length_cons, List.length_nil, List.length_map, List.length_take, List.length_drop, List.length_replicate] at * <;> omega)) | (simp only [wrap_u64] at * <;> omega)))) h6014))) (by kernel_rfl)
          · have p6008 := of_decide_eq_true h6008
            exact ok_run Try.func5 rfl rfl mixed 400 [(0, .nm 620), (1, .nm 621), (1000, .call [] [] (.v (.bool true))), (3002, .two (.call [] [] (.v (.bool (great_s p inp 0)))) (.b false)), (3008, .b false), (3012, .call [] [] (.v (.bool (right_s p)))), (3013, .b false), (5009, .nm 622), (6003, .b false), (6008, .b true)] (all8 awakeA (great_ok p inp 0 ) h3002 h3008 (right_ok p (by first | assumption | exact (great_f (by assumption)).1)) h3013 h6003 h6008) (by kernel_rfl)
        · have p6003 := of_decide_eq_true h6003
          exact ok_run Try.func5 rfl rfl mixed 400 [(0, .nm 620), (1, .nm 621), (1000, .call [] [] (.v (.bool true))), (3002, .two (.call [] [] (.v (.bool (great_s p inp 0)))) (.b false)), (3008, .b false), (3012, .call [] [] (.v (.bool (right_s p)))), (3013, .b false), (5009, .nm 622), (6003, .b true)] (all7 awakeA (great_ok p inp 0 ) h3002 h3008 (right_ok p (by first | assumption | exact (great_f (by assumption)).1)) h3013 h6003) (by kernel_rfl)
      · have p3013 := notT h3013
        exact ok_run Try.func5 rfl rfl mixed 400 [(0, .nm 620), (1, .nm 621), (1000, .call [] [] (.v (.bool true))), (3002, .two (.call [] [] (.v (.bool (great_s p inp 0)))) (.b false)), (3008, .b false), (3012, .call [] [] (.v (.bool (right_s p)))), (3013, .b true)] (all6 awakeA (great_ok p inp 0 ) h3002 h3008 (right_ok p (by first | assumption | exact (great_f (by assumption)).1)) h3013) (by kernel_rfl)
    · have p3008 := of_decide_eq_true h3008
      exact ok_run Try.func5 rfl rfl mixed 400 [(0, .nm 620), (1, .nm 621), (1000, .call [] [] (.v (.bool true))), (3002, .two (.call [] [] (.v (.bool (great_s p inp 0)))) (.b false)), (3008, .b true)] (all4 awakeA (great_ok p inp 0 ) h3002 h3008) (by kernel_rfl)
  · exact ok_run Try.func5 rfl rfl mixed 400 [(0, .nm 620), (1, .nm 621), (1000, .call [] [] (.v (.bool true))), (3002, .two (.call [] [] (.v (.bool (great_s p inp 0)))) (.b true))] (all3 awakeA (great_ok p inp 0 ) h3002) (by kernel_rfl)
end Go.Proofs.Yteolbecihipcaaa.Sx.M5
