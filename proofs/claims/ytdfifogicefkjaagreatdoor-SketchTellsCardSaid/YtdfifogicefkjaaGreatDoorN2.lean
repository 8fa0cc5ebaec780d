/- What the functions of a chapter compute, as contracts; written by a program of this session. -/
import Derived.Test.YtdfifogicefkjaaGreatDoorN1
open Go Go.Proofs Go.RowKit
namespace Go.Proofs.YtdfifogicefkjaaGreatDoor.Sx.M5
set_option linter.unusedVariables false
set_option linter.unusedSimpArgs false
theorem bif0 {b : Bool} {x y : Int} (h : (bif b then x else y) = 0) (hx : x ≠ 0) : b = false ∧ y = 0 := by
  cases b with
  | true => exact absurd h hx
  | false => exact ⟨rfl, h⟩
theorem bifF {b : Bool} {α : Type} {x : α} {y : α × Bool} (h : (bif b then (x, false) else y).2 = true) : b = false ∧ y.2 = true := by
  cases b with
  | true => cases h
  | false => exact ⟨rfl, h⟩
theorem kids_pos {op : Int} (h1 : 5 ≤ op) (h2 : op ≤ 24) : 1 ≤ kids_s op := by
  unfold kids_s
  rw [decide_eq_false (by omega : ¬ op < 5), decide_eq_false (by omega : ¬ op > 24)]
  cases decide (op ≤ (7 : Int)) <;> cases decide (op ≤ (21 : Int)) <;> cases op == (23 : Int) <;> decide
theorem tkid_l0_t {x : Nd} {l : List Nd} : ∀ (m : Nat) (f : Nat → Int) (i : Int), 0 ≤ i → (3 - i).toNat < m → (tkid_l0 x l m f i).2 = true → ∀ j : Nat, i ≤ j → j < 3 → ((j : Int) < kids_s x.op → 0 ≤ x.k j ∧ x.k j < l.length) ∧ (kids_s x.op ≤ (j : Int) → x.k j = 0) := by
  intro m
  induction m with
  | zero => intro f i _ hm; omega
  | succ m ih =>
    intro f i hi hm h j hj hj3
    rw [tkid_l0, decide_eq_true (by omega : i < 3), cond_true] at h
    by_cases e : i = j
    · subst e
      rw [Int.toNat_natCast] at h
      cases c : decide ((j : Int) ≥ kids_s x.op) with
      | true =>
        have c1 := of_decide_eq_true c
        rw [c, cond_true] at h
        have := (bifF h).1
        exact ⟨fun q => by omega, fun _ => by simpa using this⟩
      | false =>
        have c1 := of_decide_eq_false c
        rw [c, cond_false] at h
        obtain ⟨a1, h⟩ := bifF h
        have a2 := (bifF h).1
        exact ⟨fun _ => ⟨by simpa using a1, by simpa using a2⟩, fun q => by omega⟩
    · have step : ∃ f', (tkid_l0 x l m f' (i + 1)).2 = true := by
        cases c : decide (i ≥ kids_s x.op) with
        | true => rw [c, cond_true] at h; exact ⟨_, (bifF h).2⟩
        | false => rw [c, cond_false] at h; exact ⟨_, (bifF (bifF h).2).2⟩
      obtain ⟨f', h'⟩ := step
      exact ih f' (i + 1) (by omega) (by omega) h' j (by omega) hj3
theorem twid7 {x : Nd} {k : Nat → Int} (h : twid_s x k = true) : x.op = 7 → x.w = 8 := by
  intro h0
  obtain ⟨op, w, n, q⟩ := x
  obtain rfl : op = 7 := h0
  have h : (bif w == (8 : Int) then ((k 0) == (64 : Int)) else false) = true := h
  show w = 8
  cases c : w == (8 : Int) with
  | true => exact eq_of_beq c
  | false => rw [c] at h; cases h
theorem trig_t {x : Nd} {l : List Nd} (h : trig_s x l = 0) : NdOk x l.length := by
  unfold trig_s at h
  obtain ⟨a1, h⟩ := bif0 h (by decide)
  obtain ⟨a2, h⟩ := bif0 h (by decide)
  obtain ⟨a3, h⟩ := bif0 h (by decide)
  obtain ⟨a4, _⟩ := bif0 h (by decide)
  have a1 := of_decide_eq_false a1
  have a2 := of_decide_eq_false a2
  refine ⟨by omega, fun h5 m hm => ?_, twid7 (notF a4)⟩
  have q := tkid_l0_t (x := x) (l := l) _ (fun _ => 0) 0 (by omega) (Nat.lt_succ_self _) (notF a3)
  have kp := kids_pos h5 (by omega)
  have q0 := (q 0 (by omega) (by decide)).1 (by omega)
  have qm := q m (by omega) hm
  by_cases c : (m : Int) < kids_s x.op
  · exact qm.1 c
  · have e := qm.2 (by omega)
    rw [e]; omega
theorem tchk_l0_t {l : List Nd} : ∀ (m : Nat) (i : Int), 0 ≤ i → i ≤ l.length → l.length - i.toNat < m → (tchk_l0 l m i).1 = 0 → ∀ j : Nat, i ≤ j → j < l.length → trig_s (l.getD j default) ((l.take j).drop 0) = 0 := by
  intro m
  induction m with
  | zero => intro i _ _ hm; omega
  | succ m ih =>
    intro i h0 h1 hm h j hj hl
    rw [tchk_l0, decide_eq_true (by omega : i < (l.length : Int)), cond_true] at h
    cases c1 : (i == (65536 : Int)) with
    | true => rw [c1] at h; cases h
    | false =>
      rw [c1, cond_false] at h
      cases c2 : (trig_s (l.getD (i.toNat) default) ((l.take (i.toNat)).drop 0) != (0 : Int)) with
      | true =>
        rw [c2, cond_true] at h
        exact absurd h (by simpa using c2)
      | false =>
        rw [c2, cond_false] at h
        by_cases e : i = j
        · subst e
          rw [Int.toNat_natCast] at c2
          simpa using c2
        · exact ih (i + 1) (by omega) (by omega) (by omega) h j (by omega) hl
theorem nds_of_chk {l : List Nd} (h : (tchk_s l).1 = 0) : NdsOk l ∧ 1 ≤ l.length := by
  unfold tchk_s at h
  cases c : ((l.length : Int) == (0 : Int)) with
  | true => rw [c] at h; cases h
  | false =>
    rw [c, cond_false] at h
    have c : ¬ (l.length : Int) = 0 := by simpa using c
    refine ⟨fun j hj => ?_, by omega⟩
    have := trig_t (tchk_l0_t _ _ (by omega) (by omega) (Nat.lt_succ_self _) h j (by omega) hj)
    rwa [List.drop_zero, List.length_take, Nat.min_eq_left (by omega)] at this
theorem gu_app {out : List Gu} {g : Gu} (h : ∀ j, GuR (out.getD j default)) (hg : GuR g) : ∀ j, GuR ((out ++ [g]).getD j default) := by
  intro j
  have := h j
  rw [List.getD_eq_getElem?_getD] at *
  by_cases c : j < out.length
  · rwa [List.getElem?_append_left c]
  · rw [List.getElem?_append_right (by omega)]
    by_cases e : j = out.length
    · rw [e, Nat.sub_self]; exact hg
    · rw [List.getElem?_eq_none (by simp; omega)]
      have h0 : (0 : Int) < 18446744073709551616 := by decide
      exact ⟨⟨Int.le_refl 0, h0⟩, ⟨Int.le_refl 0, h0⟩, ⟨Int.le_refl 0, h0⟩, ⟨Int.le_refl 0, h0⟩⟩
theorem gu_zero : GuR ⟨0, 0, 0, 0⟩ := by
  have h0 : (0 : Int) < 18446744073709551616 := by decide
  exact ⟨⟨Int.le_refl 0, h0⟩, ⟨Int.le_refl 0, h0⟩, ⟨Int.le_refl 0, h0⟩, ⟨Int.le_refl 0, h0⟩⟩
theorem gu_nil : ∀ j, GuR (([] : List Gu).getD j default) := fun _ => gu_zero
theorem ndq {l : List Nd} {out : List Gu} {i : Nat} (hv : NdsOk l) (hi : i < l.length) (ho : out.length = i) (h5 : 5 ≤ (l.getD i default).op) : ∀ m, m < 3 → 0 ≤ (l.getD i default).k m ∧ (l.getD i default).k m < out.length := fun m hm => by
  rw [ho]; exact (hv i hi).k h5 m hm

def gwho_s (w : Int) : Gu := (⟨0, (mask_s w), 0, 0⟩ : Gu)
set_option maxRecDepth 100000 in
theorem gwho_ok (w : Int)  : Ok Tryz.prog 25 [.v (.int .i64 w)] (look []) (.agg [.v (.int .u64 ((gwho_s w).lo)), .v (.int .u64 ((gwho_s w).hi)), .v (.int .u64 ((gwho_s w).z)), .v (.int .u64 ((gwho_s w).e))]) (postOf [] []) := by
  unfold gwho_s
  exact ok_run Tryz.func25 rfl rfl mixed 400 [(0, .nm 701), (1001, .call [] [] (.v (.int .u64 (mask_s w))))] (all1 (mask_ok w )) (by kernel_rfl)

def gtig_c4 (w : Int) (g : Gu) (lo : Int) (hi : Int) (z : Int) (e : Int) : Gu := (bif decide (lo > hi) then (gwho_s w) else (bif !((kmee_s w z e (Go.bits .andNot .u64 ((kof_s w lo).1) (IntKind.u64.wrap ((IntKind.u64.wrap (1 * 2 ^ min ((len64_s (Go.bits .xor .u64 lo hi)).toNat) 64)) - 1))) (Go.bits .andNot .u64 ((kof_s w lo).2) (IntKind.u64.wrap ((IntKind.u64.wrap (1 * 2 ^ min ((len64_s (Go.bits .xor .u64 lo hi)).toNat) 64)) - 1)))).2.2) then (gwho_s w) else (⟨lo, hi, (kmee_s w z e (Go.bits .andNot .u64 ((kof_s w lo).1) (IntKind.u64.wrap ((IntKind.u64.wrap (1 * 2 ^ min ((len64_s (Go.bits .xor .u64 lo hi)).toNat) 64)) - 1))) (Go.bits .andNot .u64 ((kof_s w lo).2) (IntKind.u64.wrap ((IntKind.u64.wrap (1 * 2 ^ min ((len64_s (Go.bits .xor .u64 lo hi)).toNat) 64)) - 1)))).1, (kmee_s w z e (Go.bits .andNot .u64 ((kof_s w lo).1) (IntKind.u64.wrap ((IntKind.u64.wrap (1 * 2 ^ min ((len64_s (Go.bits .xor .u64 lo hi)).toNat) 64)) - 1))) (Go.bits .andNot .u64 ((kof_s w lo).2) (IntKind.u64.wrap ((IntKind.u64.wrap (1 * 2 ^ min ((len64_s (Go.bits .xor .u64 lo hi)).toNat) 64)) - 1)))).2.1⟩ : Gu)))
set_option maxRecDepth 100000 in
theorem gtig_c4ok (w : Int) (g : Gu)  (lo : Int) (hi : Int) (z : Int) (e : Int)  : Good Tryz.prog 11 Tryz.f11.ntmps (look []) false (.agg [.v (.int .u64 ((gtig_c4 w g lo hi z e).lo)), .v (.int .u64 ((gtig_c4 w g lo hi z e).hi)), .v (.int .u64 ((gtig_c4 w g lo hi z e).z)), .v (.int .u64 ((gtig_c4 w g lo hi z e).e))]) (postOf [] []) (cutAt Tryz.f11 4) [(0, .v (.int .i64 w)), (4, .ptr 702 0), (5, .ptr 825 0), (6, .ptr 826 0)] [(701, .cells [.v (.int .u64 g.lo), .v (.int .u64 g.hi), .v (.int .u64 g.z), .v (.int .u64 g.e)] 41), (702, .cells [.v (.int .u64 0), .v (.int .u64 0), .v (.int .u64 0), .v (.int .u64 0)] 41), (825, .cells [.v (.int .u64 lo), .v (.int .u64 hi)] 37), (826, .cells [.v (.int .u64 z), .v (.int .u64 e)] 39)] := by
  unfold gtig_c4
  cases h4004 : (decide (lo > hi))
  · have p4004 := of_decide_eq_false h4004
    cases h10001 : (!((kmee_s w z e (Go.bits .andNot .u64 ((kof_s w lo).1) (IntKind.u64.wrap ((IntKind.u64.wrap (1 * 2 ^ min ((len64_s (Go.bits .xor .u64 lo hi)).toNat) 64)) - 1))) (Go.bits .andNot .u64 ((kof_s w lo).2) (IntKind.u64.wrap ((IntKind.u64.wrap (1 * 2 ^ min ((len64_s (Go.bits .xor .u64 lo hi)).toNat) 64)) - 1)))).2.2))
    · have p10001 := notF h10001
      exact good_run Tryz.func11 mixed 400 [(4004, .b false), (6005, .call [] [] (.v (.int .i64 (len64_s (Go.bits .xor .u64 lo hi))))), (6006, .nat 0), (7003, .call [] [] (.agg [.v (.int .u64 ((kof_s w lo).1)), .v (.int .u64 ((kof_s w lo).2))])), (7004, .nm 751), (9003, .call [] [] (.tup [.agg [.v (.int .u64 ((kmee_s w z e (Go.bits .andNot .u64 ((kof_s w lo).1) (IntKind.u64.wrap ((IntKind.u64.wrap (1 * 2 ^ min ((len64_s (Go.bits .xor .u64 lo hi)).toNat) 64)) - 1))) (Go.bits .andNot .u64 ((kof_s w lo).2) (IntKind.u64.wrap ((IntKind.u64.wrap (1 * 2 ^ min ((len64_s (Go.bits .xor .u64 lo hi)).toNat) 64)) - 1)))).1)), .v (.int .u64 ((kmee_s w z e (Go.bits .andNot .u64 ((kof_s w lo).1) (IntKind.u64.wrap ((IntKind.u64.wrap (1 * 2 ^ min ((len64_s (Go.bits .xor .u64 lo hi)).toNat) 64)) - 1))) (Go.bits .andNot .u64 ((kof_s w lo).2) (IntKind.u64.wrap ((IntKind.u64.wrap (1 * 2 ^ min ((len64_s (Go.bits .xor .u64 lo hi)).toNat) 64)) - 1)))).2.1))], .v (.bool ((kmee_s w z e (Go.bits .andNot .u64 ((kof_s w lo).1) (IntKind.u64.wrap ((IntKind.u64.wrap (1 * 2 ^ min ((len64_s (Go.bits .xor .u64 lo hi)).toNat) 64)) - 1))) (Go.bits .andNot .u64 ((kof_s w lo).2) (IntKind.u64.wrap ((IntKind.u64.wrap (1 * 2 ^ min ((len64_s (Go.bits .xor .u64 lo hi)).toNat) 64)) - 1)))).2.2))])), (10001, .b false)] (all6 h4004 (len64_ok (Go.bits .xor .u64 lo hi) (bits_u64_rng _ _ _)) (show (0 : Int) ≤ (len64_s (Go.bits .xor .u64 lo hi)) by have := len64_rng (Go.bits .xor .u64 lo hi); omega) (kof_ok w lo ) (kmee_ok w z e (Go.bits .andNot .u64 ((kof_s w lo).1) (IntKind.u64.wrap ((IntKind.u64.wrap (1 * 2 ^ min ((len64_s (Go.bits .xor .u64 lo hi)).toNat) 64)) - 1))) (Go.bits .andNot .u64 ((kof_s w lo).2) (IntKind.u64.wrap ((IntKind.u64.wrap (1 * 2 ^ min ((len64_s (Go.bits .xor .u64 lo hi)).toNat) 64)) - 1))) ) h10001) (by kernel_rfl)
    · have p10001 := notT h10001
      exact good_run Tryz.func11 mixed 400 [(4004, .b false), (6005, .call [] [] (.v (.int .i64 (len64_s (Go.bits .xor .u64 lo hi))))), (6006, .nat 0), (7003, .call [] [] (.agg [.v (.int .u64 ((kof_s w lo).1)), .v (.int .u64 ((kof_s w lo).2))])), (7004, .nm 751), (9003, .call [] [] (.tup [.agg [.v (.int .u64 ((kmee_s w z e (Go.bits .andNot .u64 ((kof_s w lo).1) (IntKind.u64.wrap ((IntKind.u64.wrap (1 * 2 ^ min ((len64_s (Go.bits .xor .u64 lo hi)).toNat) 64)) - 1))) (Go.bits .andNot .u64 ((kof_s w lo).2) (IntKind.u64.wrap ((IntKind.u64.wrap (1 * 2 ^ min ((len64_s (Go.bits .xor .u64 lo hi)).toNat) 64)) - 1)))).1)), .v (.int .u64 ((kmee_s w z e (Go.bits .andNot .u64 ((kof_s w lo).1) (IntKind.u64.wrap ((IntKind.u64.wrap (1 * 2 ^ min ((len64_s (Go.bits .xor .u64 lo hi)).toNat) 64)) - 1))) (Go.bits .andNot .u64 ((kof_s w lo).2) (IntKind.u64.wrap ((IntKind.u64.wrap (1 * 2 ^ min ((len64_s (Go.bits .xor .u64 lo hi)).toNat) 64)) - 1)))).2.1))], .v (.bool ((kmee_s w z e (Go.bits .andNot .u64 ((kof_s w lo).1) (IntKind.u64.wrap ((IntKind.u64.wrap (1 * 2 ^ min ((len64_s (Go.bits .xor .u64 lo hi)).toNat) 64)) - 1))) (Go.bits .andNot .u64 ((kof_s w lo).2) (IntKind.u64.wrap ((IntKind.u64.wrap (1 * 2 ^ min ((len64_s (Go.bits .xor .u64 lo hi)).toNat) 64)) - 1)))).2.2))])), (10001, .b true), (11001, .call [] [] (.agg [.v (.int .u64 ((gwho_s w).lo)), .v (.int .u64 ((gwho_s w).hi)), .v (.int .u64 ((gwho_s w).z)), .v (.int .u64 ((gwho_s w).e))]))] (all7 h4004 (len64_ok (Go.bits .xor .u64 lo hi) (bits_u64_rng _ _ _)) (show (0 : Int) ≤ (len64_s (Go.bits .xor .u64 lo hi)) by have := len64_rng (Go.bits .xor .u64 lo hi); omega) (kof_ok w lo ) (kmee_ok w z e (Go.bits .andNot .u64 ((kof_s w lo).1) (IntKind.u64.wrap ((IntKind.u64.wrap (1 * 2 ^ min ((len64_s (Go.bits .xor .u64 lo hi)).toNat) 64)) - 1))) (Go.bits .andNot .u64 ((kof_s w lo).2) (IntKind.u64.wrap ((IntKind.u64.wrap (1 * 2 ^ min ((len64_s (Go.bits .xor .u64 lo hi)).toNat) 64)) - 1))) ) h10001 (gwho_ok w )) (by kernel_rfl)
  · have p4004 := of_decide_eq_true h4004
    exact good_run Tryz.func11 mixed 400 [(4004, .b true), (5001, .call [] [] (.agg [.v (.int .u64 ((gwho_s w).lo)), .v (.int .u64 ((gwho_s w).hi)), .v (.int .u64 ((gwho_s w).z)), .v (.int .u64 ((gwho_s w).e))]))] (all2 h4004 (gwho_ok w )) (by kernel_rfl)
def gtig_s (w : Int) (g : Gu) : Gu := (gtig_c4 w g (max ((srig_s w g.lo g.hi).1) ((krig_s w g.z g.e).2)) (min ((srig_s w g.lo g.hi).2) (Go.bits .andNot .u64 (mask_s w) ((krig_s w g.z g.e).1))) ((krig_s w g.z g.e).1) ((krig_s w g.z g.e).2))
set_option maxRecDepth 100000 in
theorem gtig_ok (w : Int) (g : Gu)  : Ok Tryz.prog 11 [.v (.int .i64 w), .agg [.v (.int .u64 g.lo), .v (.int .u64 g.hi), .v (.int .u64 g.z), .v (.int .u64 g.e)]] (look []) (.agg [.v (.int .u64 ((gtig_s w g).lo)), .v (.int .u64 ((gtig_s w g).hi)), .v (.int .u64 ((gtig_s w g).z)), .v (.int .u64 ((gtig_s w g).e))]) (postOf [] []) := by
  unfold gtig_s
  refine ok_head (T := [(0, .v (.int .i64 w)), (4, .ptr 702 0), (5, .ptr 825 0), (6, .ptr 826 0)]) (H := [(701, .cells [.v (.int .u64 g.lo), .v (.int .u64 g.hi), .v (.int .u64 g.z), .v (.int .u64 g.e)] 41), (702, .cells [.v (.int .u64 0), .v (.int .u64 0), .v (.int .u64 0), .v (.int .u64 0)] 41), (825, .cells [.v (.int .u64 (max ((srig_s w g.lo g.hi).1) ((krig_s w g.z g.e).2))), .v (.int .u64 (min ((srig_s w g.lo g.hi).2) (Go.bits .andNot .u64 (mask_s w) ((krig_s w g.z g.e).1))))] 37), (826, .cells [.v (.int .u64 ((krig_s w g.z g.e).1)), .v (.int .u64 ((krig_s w g.z g.e).2))] 39)]) (todo := cutAt Tryz.f11 4) Tryz.func11 rfl rfl mixed 400 [(0, .nm 701), (1, .nm 702), (1003, .call [] [] (.agg [.v (.int .u64 ((srig_s w g.lo g.hi).1)), .v (.int .u64 ((srig_s w g.lo g.hi).2))])), (1007, .call [] [] (.agg [.v (.int .u64 ((krig_s w g.z g.e).1)), .v (.int .u64 ((krig_s w g.z g.e).2))])), (1008, .nm 825), (1009, .nm 826), (2004, .as_ (.v (.int .u64 (max ((srig_s w g.lo g.hi).1) ((krig_s w g.z g.e).2))))), (3003, .call [] [] (.v (.int .u64 (mask_s w)))), (3007, .as_ (.v (.int .u64 (min ((srig_s w g.lo g.hi).2) (Go.bits .andNot .u64 (mask_s w) ((krig_s w g.z g.e).1)))))), (4999, .b true)] (all5 (srig_ok w g.lo g.hi ) (krig_ok w g.z g.e ) (maxE .u64 ((srig_s w g.lo g.hi).1) ((krig_s w g.z g.e).2)) (mask_ok w ) (minE .u64 ((srig_s w g.lo g.hi).2) (Go.bits .andNot .u64 (mask_s w) ((krig_s w g.z g.e).1)))) (by kernel_rfl) ?_
  exact gtig_c4ok w g (max ((srig_s w g.lo g.hi).1) ((krig_s w g.z g.e).2)) (min ((srig_s w g.lo g.hi).2) (Go.bits .andNot .u64 (mask_s w) ((krig_s w g.z g.e).1))) ((krig_s w g.z g.e).1) ((krig_s w g.z g.e).2) 

def kid0_s (l : List Nd) (out : List Gu) (x : Nd) : Gu × Int := ((out.getD ((x.k 0).toNat) default), (l.getD ((x.k 0).toNat) default).w)
set_option maxRecDepth 100000 in
theorem kid0_ok (l : List Nd) (out : List Gu) (x : Nd) (q : ∀ m, m < 3 → 0 ≤ x.k m ∧ x.k m < out.length) (h2 : out.length ≤ l.length) : Ok Tryz.prog 44 [.ptr 820 0, .agg (cat [.v (.int .i64 x.op), .v (.int .i64 x.w), .v (.int .u64 x.n)] (cat (arrA aI 3 x.k) [])), .v (.int .i64 0)] (look [(820, .cells [.ro 6 l.length ((l).map eNd), .own 821] 51), (821, .row 4 41 out.length ((out).map eGu))]) (.tup [.agg [.v (.int .u64 ((kid0_s l out x).1.lo)), .v (.int .u64 ((kid0_s l out x).1.hi)), .v (.int .u64 ((kid0_s l out x).1.z)), .v (.int .u64 ((kid0_s l out x).1.e))], .v (.int .i64 ((kid0_s l out x).2))]) (postOf [(820, .cells [.ro 6 l.length ((l).map eNd), .own 821] 51), (821, .row 4 41 out.length ((out).map eGu))] []) := by
  unfold kid0_s
  have q0 := q 0 (by decide); have q1 := q 1 (by decide); have q2 := q 2 (by decide)
  exact ok_run Tryz.func44 rfl rfl mixed 400 [(0, .nm 901), (1, .nm 902), (1009, .el (eGu (out.getD ((x.k 0).toNat) default))), (1018, .el (eNd (l.getD ((x.k 0).toNat) default)))] (all5 (show (0 : Int) ≤ x.k 0 by omega) (show (x.k 0 : Int) < out.length by omega) (getg (l := out) (n := (x.k 0).toNat) eGu default (by omega)) (show (0 : Int) ≤ x.k 0 by omega) (getg (l := l) (n := (x.k 0).toNat) eNd default (by omega))) (by kernel_rfl)

def kid1_s (l : List Nd) (out : List Gu) (x : Nd) : Gu × Int := ((out.getD ((x.k 1).toNat) default), (l.getD ((x.k 1).toNat) default).w)
set_option maxRecDepth 100000 in
theorem kid1_ok (l : List Nd) (out : List Gu) (x : Nd) (q : ∀ m, m < 3 → 0 ≤ x.k m ∧ x.k m < out.length) (h2 : out.length ≤ l.length) : Ok Tryz.prog 44 [.ptr 820 0, .agg (cat [.v (.int .i64 x.op), .v (.int .i64 x.w), .v (.int .u64 x.n)] (cat (arrA aI 3 x.k) [])), .v (.int .i64 1)] (look [(820, .cells [.ro 6 l.length ((l).map eNd), .own 821] 51), (821, .row 4 41 out.length ((out).map eGu))]) (.tup [.agg [.v (.int .u64 ((kid1_s l out x).1.lo)), .v (.int .u64 ((kid1_s l out x).1.hi)), .v (.int .u64 ((kid1_s l out x).1.z)), .v (.int .u64 ((kid1_s l out x).1.e))], .v (.int .i64 ((kid1_s l out x).2))]) (postOf [(820, .cells [.ro 6 l.length ((l).map eNd), .own 821] 51), (821, .row 4 41 out.length ((out).map eGu))] []) := by
  unfold kid1_s
  have q0 := q 0 (by decide); have q1 := q 1 (by decide); have q2 := q 2 (by decide)
  exact ok_run Tryz.func44 rfl rfl mixed 400 [(0, .nm 901), (1, .nm 902), (1009, .el (eGu (out.getD ((x.k 1).toNat) default))), (1018, .el (eNd (l.getD ((x.k 1).toNat) default)))] (all5 (show (0 : Int) ≤ x.k 1 by omega) (show (x.k 1 : Int) < out.length by omega) (getg (l := out) (n := (x.k 1).toNat) eGu default (by omega)) (show (0 : Int) ≤ x.k 1 by omega) (getg (l := l) (n := (x.k 1).toNat) eNd default (by omega))) (by kernel_rfl)

def kid2_s (l : List Nd) (out : List Gu) (x : Nd) : Gu × Int := ((out.getD ((x.k 2).toNat) default), (l.getD ((x.k 2).toNat) default).w)
set_option maxRecDepth 100000 in
theorem kid2_ok (l : List Nd) (out : List Gu) (x : Nd) (q : ∀ m, m < 3 → 0 ≤ x.k m ∧ x.k m < out.length) (h2 : out.length ≤ l.length) : Ok Tryz.prog 44 [.ptr 820 0, .agg (cat [.v (.int .i64 x.op), .v (.int .i64 x.w), .v (.int .u64 x.n)] (cat (arrA aI 3 x.k) [])), .v (.int .i64 2)] (look [(820, .cells [.ro 6 l.length ((l).map eNd), .own 821] 51), (821, .row 4 41 out.length ((out).map eGu))]) (.tup [.agg [.v (.int .u64 ((kid2_s l out x).1.lo)), .v (.int .u64 ((kid2_s l out x).1.hi)), .v (.int .u64 ((kid2_s l out x).1.z)), .v (.int .u64 ((kid2_s l out x).1.e))], .v (.int .i64 ((kid2_s l out x).2))]) (postOf [(820, .cells [.ro 6 l.length ((l).map eNd), .own 821] 51), (821, .row 4 41 out.length ((out).map eGu))] []) := by
  unfold kid2_s
  have q0 := q 0 (by decide); have q1 := q 1 (by decide); have q2 := q 2 (by decide)
  exact ok_run Tryz.func44 rfl rfl mixed 400 [(0, .nm 901), (1, .nm 902), (1009, .el (eGu (out.getD ((x.k 2).toNat) default))), (1018, .el (eNd (l.getD ((x.k 2).toNat) default)))] (all5 (show (0 : Int) ≤ x.k 2 by omega) (show (x.k 2 : Int) < out.length by omega) (getg (l := out) (n := (x.k 2).toNat) eGu default (by omega)) (show (0 : Int) ≤ x.k 2 by omega) (getg (l := l) (n := (x.k 2).toNat) eNd default (by omega))) (by kernel_rfl)

def mcon_s (l : List Nd) (out : List Gu) (x : Nd) : Gu := (⟨x.n, x.n, (kof_s x.w x.n).1, (kof_s x.w x.n).2⟩ : Gu)
set_option maxRecDepth 100000 in
theorem mcon_ok (l : List Nd) (out : List Gu) (x : Nd)  : Ok Tryz.prog 16 [.ptr 820 0, .agg (cat [.v (.int .i64 x.op), .v (.int .i64 x.w), .v (.int .u64 x.n)] (cat (arrA aI 3 x.k) []))] (look [(820, .cells [.ro 6 l.length ((l).map eNd), .own 821] 51), (821, .row 4 41 out.length ((out).map eGu))]) (.agg [.v (.int .u64 ((mcon_s l out x).lo)), .v (.int .u64 ((mcon_s l out x).hi)), .v (.int .u64 ((mcon_s l out x).z)), .v (.int .u64 ((mcon_s l out x).e))]) (postOf [(820, .cells [.ro 6 l.length ((l).map eNd), .own 821] 51), (821, .row 4 41 out.length ((out).map eGu))] []) := by
  unfold mcon_s
  exact ok_run Tryz.func16 rfl rfl mixed 400 [(0, .nm 901), (1, .nm 902), (1009, .call [] [] (.agg [.v (.int .u64 ((kof_s x.w x.n).1)), .v (.int .u64 ((kof_s x.w x.n).2))]))] (all1 (kof_ok x.w x.n )) (by kernel_rfl)

def mope_s (l : List Nd) (out : List Gu) (x : Nd) : Gu := (gwho_s x.w)
set_option maxRecDepth 100000 in
theorem mope_ok (l : List Nd) (out : List Gu) (x : Nd)  : Ok Tryz.prog 17 [.ptr 820 0, .agg (cat [.v (.int .i64 x.op), .v (.int .i64 x.w), .v (.int .u64 x.n)] (cat (arrA aI 3 x.k) []))] (look [(820, .cells [.ro 6 l.length ((l).map eNd), .own 821] 51), (821, .row 4 41 out.length ((out).map eGu))]) (.agg [.v (.int .u64 ((mope_s l out x).lo)), .v (.int .u64 ((mope_s l out x).hi)), .v (.int .u64 ((mope_s l out x).z)), .v (.int .u64 ((mope_s l out x).e))]) (postOf [(820, .cells [.ro 6 l.length ((l).map eNd), .own 821] 51), (821, .row 4 41 out.length ((out).map eGu))] []) := by
  unfold mope_s
  exact ok_run Tryz.func17 rfl rfl mixed 400 [(0, .nm 901), (1, .nm 902), (1002, .call [] [] (.agg [.v (.int .u64 ((gwho_s x.w).lo)), .v (.int .u64 ((gwho_s x.w).hi)), .v (.int .u64 ((gwho_s x.w).z)), .v (.int .u64 ((gwho_s x.w).e))]))] (all1 (gwho_ok x.w )) (by kernel_rfl)

def mwid_s (l : List Nd) (out : List Gu) (x : Nd) : Gu := (⟨(kid0_s l out x).1.lo, (kid0_s l out x).1.hi, Go.bits .or .u64 ((kid0_s l out x).1.z) (Go.bits .xor .u64 IntKind.u64.max (mask_s ((kid0_s l out x).2))), (kid0_s l out x).1.e⟩ : Gu)
set_option maxRecDepth 100000 in
theorem mwid_ok (l : List Nd) (out : List Gu) (x : Nd) (q : ∀ m, m < 3 → 0 ≤ x.k m ∧ x.k m < out.length) (h2 : out.length ≤ l.length) : Ok Tryz.prog 19 [.ptr 820 0, .agg (cat [.v (.int .i64 x.op), .v (.int .i64 x.w), .v (.int .u64 x.n)] (cat (arrA aI 3 x.k) []))] (look [(820, .cells [.ro 6 l.length ((l).map eNd), .own 821] 51), (821, .row 4 41 out.length ((out).map eGu))]) (.agg [.v (.int .u64 ((mwid_s l out x).lo)), .v (.int .u64 ((mwid_s l out x).hi)), .v (.int .u64 ((mwid_s l out x).z)), .v (.int .u64 ((mwid_s l out x).e))]) (postOf [(820, .cells [.ro 6 l.length ((l).map eNd), .own 821] 51), (821, .row 4 41 out.length ((out).map eGu))] []) := by
  unfold mwid_s
  exact ok_run Tryz.func19 rfl rfl mixed 400 [(0, .nm 901), (1, .nm 902), (1002, .call [820, 821] [] (.tup [.agg [.v (.int .u64 ((kid0_s l out x).1.lo)), .v (.int .u64 ((kid0_s l out x).1.hi)), .v (.int .u64 ((kid0_s l out x).1.z)), .v (.int .u64 ((kid0_s l out x).1.e))], .v (.int .i64 ((kid0_s l out x).2))])), (1006, .nm 903), (2004, .call [] [] (.v (.int .u64 (mask_s ((kid0_s l out x).2)))))] (all2 (kid0_ok l out x q h2) (mask_ok ((kid0_s l out x).2) )) (by kernel_rfl)

def mlow_s (l : List Nd) (out : List Gu) (x : Nd) : Gu := (bif decide (((kid0_s l out x).1.hi) > (255 : Int)) then (⟨0, 255, (kid0_s l out x).1.z, (kid0_s l out x).1.e⟩ : Gu) else ((kid0_s l out x).1))
set_option maxRecDepth 100000 in
theorem mlow_ok (l : List Nd) (out : List Gu) (x : Nd) (q : ∀ m, m < 3 → 0 ≤ x.k m ∧ x.k m < out.length) (h2 : out.length ≤ l.length) : Ok Tryz.prog 20 [.ptr 820 0, .agg (cat [.v (.int .i64 x.op), .v (.int .i64 x.w), .v (.int .u64 x.n)] (cat (arrA aI 3 x.k) []))] (look [(820, .cells [.ro 6 l.length ((l).map eNd), .own 821] 51), (821, .row 4 41 out.length ((out).map eGu))]) (.agg [.v (.int .u64 ((mlow_s l out x).lo)), .v (.int .u64 ((mlow_s l out x).hi)), .v (.int .u64 ((mlow_s l out x).z)), .v (.int .u64 ((mlow_s l out x).e))]) (postOf [(820, .cells [.ro 6 l.length ((l).map eNd), .own 821] 51), (821, .row 4 41 out.length ((out).map eGu))] []) := by
  unfold mlow_s
  cases h2003 : (decide (((kid0_s l out x).1.hi) > (255 : Int)))
  · have p2003 := of_decide_eq_false h2003
    exact ok_run Tryz.func20 rfl rfl mixed 400 [(0, .nm 901), (1, .nm 902), (1002, .call [820, 821] [] (.tup [.agg [.v (.int .u64 ((kid0_s l out x).1.lo)), .v (.int .u64 ((kid0_s l out x).1.hi)), .v (.int .u64 ((kid0_s l out x).1.z)), .v (.int .u64 ((kid0_s l out x).1.e))], .v (.int .i64 ((kid0_s l out x).2))])), (1006, .nm 903), (2003, .b false)] (all2 (kid0_ok l out x q h2) h2003) (by kernel_rfl)
  · have p2003 := of_decide_eq_true h2003
    exact ok_run Tryz.func20 rfl rfl mixed 400 [(0, .nm 901), (1, .nm 902), (1002, .call [820, 821] [] (.tup [.agg [.v (.int .u64 ((kid0_s l out x).1.lo)), .v (.int .u64 ((kid0_s l out x).1.hi)), .v (.int .u64 ((kid0_s l out x).1.z)), .v (.int .u64 ((kid0_s l out x).1.e))], .v (.int .i64 ((kid0_s l out x).2))])), (1006, .nm 903), (2003, .b true)] (all2 (kid0_ok l out x q h2) h2003) (by kernel_rfl)

def mjoi_s (x : Nd) (a b : Gu) : Gu := (⟨(sjoi_s x.w a.lo a.hi b.lo b.hi).1, (sjoi_s x.w a.lo a.hi b.lo b.hi).2, (kjoi_s x.w a.z a.e b.z b.e).1, (kjoi_s x.w a.z a.e b.z b.e).2⟩ : Gu)
set_option maxRecDepth 100000 in
theorem mjoi_ok (x : Nd) (a b : Gu)  : Ok Tryz.prog 47 [.ptr 822 0, .ptr 823 0, .ptr 824 0] (look [(822, .cells (cat [.v (.int .i64 x.op), .v (.int .i64 x.w), .v (.int .u64 x.n)] (cat (arrA aI 3 x.k) [])) 46), (823, .cells [.v (.int .u64 a.lo), .v (.int .u64 a.hi), .v (.int .u64 a.z), .v (.int .u64 a.e)] 41), (824, .cells [.v (.int .u64 b.lo), .v (.int .u64 b.hi), .v (.int .u64 b.z), .v (.int .u64 b.e)] 41)]) (.agg [.v (.int .u64 ((mjoi_s x a b).lo)), .v (.int .u64 ((mjoi_s x a b).hi)), .v (.int .u64 ((mjoi_s x a b).z)), .v (.int .u64 ((mjoi_s x a b).e))]) (postOf [(822, .cells (cat [.v (.int .i64 x.op), .v (.int .i64 x.w), .v (.int .u64 x.n)] (cat (arrA aI 3 x.k) [])) 46), (823, .cells [.v (.int .u64 a.lo), .v (.int .u64 a.hi), .v (.int .u64 a.z), .v (.int .u64 a.e)] 41), (824, .cells [.v (.int .u64 b.lo), .v (.int .u64 b.hi), .v (.int .u64 b.z), .v (.int .u64 b.e)] 41)] []) := by
  unfold mjoi_s
  exact ok_run Tryz.func47 rfl rfl mixed 400 [(0, .nm 901), (1006, .call [] [] (.agg [.v (.int .u64 ((sjoi_s x.w a.lo a.hi b.lo b.hi).1)), .v (.int .u64 ((sjoi_s x.w a.lo a.hi b.lo b.hi).2))])), (1013, .call [] [] (.agg [.v (.int .u64 ((kjoi_s x.w a.z a.e b.z b.e).1)), .v (.int .u64 ((kjoi_s x.w a.z a.e b.z b.e).2))]))] (all2 (sjoi_ok x.w a.lo a.hi b.lo b.hi ) (kjoi_ok x.w a.z a.e b.z b.e )) (by kernel_rfl)

def mcho_s (l : List Nd) (out : List Gu) (x : Nd) : Gu := (bif ((kid0_s l out x).1.lo) == (1 : Int) then ((kid1_s l out x).1) else (bif ((kid0_s l out x).1.hi) == (0 : Int) then ((kid2_s l out x).1) else (mjoi_s x ((kid1_s l out x).1) ((kid2_s l out x).1))))
set_option maxRecDepth 100000 in
theorem mcho_ok (l : List Nd) (out : List Gu) (x : Nd) (q : ∀ m, m < 3 → 0 ≤ x.k m ∧ x.k m < out.length) (h2 : out.length ≤ l.length) : Ok Tryz.prog 21 [.ptr 820 0, .agg (cat [.v (.int .i64 x.op), .v (.int .i64 x.w), .v (.int .u64 x.n)] (cat (arrA aI 3 x.k) []))] (look [(820, .cells [.ro 6 l.length ((l).map eNd), .own 821] 51), (821, .row 4 41 out.length ((out).map eGu))]) (.agg [.v (.int .u64 ((mcho_s l out x).lo)), .v (.int .u64 ((mcho_s l out x).hi)), .v (.int .u64 ((mcho_s l out x).z)), .v (.int .u64 ((mcho_s l out x).e))]) (postOf [(820, .cells [.ro 6 l.length ((l).map eNd), .own 821] 51), (821, .row 4 41 out.length ((out).map eGu))] []) := by
  unfold mcho_s
  cases h5003 : (((kid0_s l out x).1.lo) == (1 : Int))
  · have p5003 := ne_of_beq_false h5003
    cases h7003 : (((kid0_s l out x).1.hi) == (0 : Int))
    · have p7003 := ne_of_beq_false h7003
      exact ok_run Tryz.func21 rfl rfl mixed 400 [(0, .nm 822), (1, .nm 901), (1002, .call [820, 821] [] (.tup [.agg [.v (.int .u64 ((kid0_s l out x).1.lo)), .v (.int .u64 ((kid0_s l out x).1.hi)), .v (.int .u64 ((kid0_s l out x).1.z)), .v (.int .u64 ((kid0_s l out x).1.e))], .v (.int .i64 ((kid0_s l out x).2))])), (1006, .nm 902), (2002, .call [820, 821] [] (.tup [.agg [.v (.int .u64 ((kid1_s l out x).1.lo)), .v (.int .u64 ((kid1_s l out x).1.hi)), .v (.int .u64 ((kid1_s l out x).1.z)), .v (.int .u64 ((kid1_s l out x).1.e))], .v (.int .i64 ((kid1_s l out x).2))])), (2006, .nm 823), (3002, .call [820, 821] [] (.tup [.agg [.v (.int .u64 ((kid2_s l out x).1.lo)), .v (.int .u64 ((kid2_s l out x).1.hi)), .v (.int .u64 ((kid2_s l out x).1.z)), .v (.int .u64 ((kid2_s l out x).1.e))], .v (.int .i64 ((kid2_s l out x).2))])), (3006, .nm 824), (5003, .b false), (7003, .b false), (9001, .call [822, 823, 824] [] (.agg [.v (.int .u64 ((mjoi_s x ((kid1_s l out x).1) ((kid2_s l out x).1)).lo)), .v (.int .u64 ((mjoi_s x ((kid1_s l out x).1) ((kid2_s l out x).1)).hi)), .v (.int .u64 ((mjoi_s x ((kid1_s l out x).1) ((kid2_s l out x).1)).z)), .v (.int .u64 ((mjoi_s x ((kid1_s l out x).1) ((kid2_s l out x).1)).e))]))] (all6 (kid0_ok l out x q h2) (kid1_ok l out x q h2) (kid2_ok l out x q h2) h5003 h7003 (mjoi_ok x ((kid1_s l out x).1) ((kid2_s l out x).1))) (by kernel_rfl)
    · have p7003 := eq_of_beq h7003
      exact ok_run Tryz.func21 rfl rfl mixed 400 [(0, .nm 822), (1, .nm 901), (1002, .call [820, 821] [] (.tup [.agg [.v (.int .u64 ((kid0_s l out x).1.lo)), .v (.int .u64 ((kid0_s l out x).1.hi)), .v (.int .u64 ((kid0_s l out x).1.z)), .v (.int .u64 ((kid0_s l out x).1.e))], .v (.int .i64 ((kid0_s l out x).2))])), (1006, .nm 902), (2002, .call [820, 821] [] (.tup [.agg [.v (.int .u64 ((kid1_s l out x).1.lo)), .v (.int .u64 ((kid1_s l out x).1.hi)), .v (.int .u64 ((kid1_s l out x).1.z)), .v (.int .u64 ((kid1_s l out x).1.e))], .v (.int .i64 ((kid1_s l out x).2))])), (2006, .nm 823), (3002, .call [820, 821] [] (.tup [.agg [.v (.int .u64 ((kid2_s l out x).1.lo)), .v (.int .u64 ((kid2_s l out x).1.hi)), .v (.int .u64 ((kid2_s l out x).1.z)), .v (.int .u64 ((kid2_s l out x).1.e))], .v (.int .i64 ((kid2_s l out x).2))])), (3006, .nm 824), (5003, .b false), (7003, .b true)] (all5 (kid0_ok l out x q h2) (kid1_ok l out x q h2) (kid2_ok l out x q h2) h5003 h7003) (by kernel_rfl)
  · have p5003 := eq_of_beq h5003
    exact ok_run Tryz.func21 rfl rfl mixed 400 [(0, .nm 822), (1, .nm 901), (1002, .call [820, 821] [] (.tup [.agg [.v (.int .u64 ((kid0_s l out x).1.lo)), .v (.int .u64 ((kid0_s l out x).1.hi)), .v (.int .u64 ((kid0_s l out x).1.z)), .v (.int .u64 ((kid0_s l out x).1.e))], .v (.int .i64 ((kid0_s l out x).2))])), (1006, .nm 902), (2002, .call [820, 821] [] (.tup [.agg [.v (.int .u64 ((kid1_s l out x).1.lo)), .v (.int .u64 ((kid1_s l out x).1.hi)), .v (.int .u64 ((kid1_s l out x).1.z)), .v (.int .u64 ((kid1_s l out x).1.e))], .v (.int .i64 ((kid1_s l out x).2))])), (2006, .nm 823), (3002, .call [820, 821] [] (.tup [.agg [.v (.int .u64 ((kid2_s l out x).1.lo)), .v (.int .u64 ((kid2_s l out x).1.hi)), .v (.int .u64 ((kid2_s l out x).1.z)), .v (.int .u64 ((kid2_s l out x).1.e))], .v (.int .i64 ((kid2_s l out x).2))])), (3006, .nm 824), (5003, .b true)] (all4 (kid0_ok l out x q h2) (kid1_ok l out x q h2) (kid2_ok l out x q h2) h5003) (by kernel_rfl)

def mapp_s (l : List Nd) (out : List Gu) (x : Nd) : Gu := (⟨(sapp_s x.op ((kid0_s l out x).2) ((kid0_s l out x).1.lo) ((kid0_s l out x).1.hi) ((kid1_s l out x).1.lo) ((kid1_s l out x).1.hi)).1, (sapp_s x.op ((kid0_s l out x).2) ((kid0_s l out x).1.lo) ((kid0_s l out x).1.hi) ((kid1_s l out x).1.lo) ((kid1_s l out x).1.hi)).2, (kapp_s x.op ((kid0_s l out x).2) ((kid0_s l out x).1.z) ((kid0_s l out x).1.e) ((kid1_s l out x).1.z) ((kid1_s l out x).1.e)).1, (kapp_s x.op ((kid0_s l out x).2) ((kid0_s l out x).1.z) ((kid0_s l out x).1.e) ((kid1_s l out x).1.z) ((kid1_s l out x).1.e)).2⟩ : Gu)
set_option maxRecDepth 100000 in
theorem mapp_ok (l : List Nd) (out : List Gu) (x : Nd) (q : ∀ m, m < 3 → 0 ≤ x.k m ∧ x.k m < out.length) (h2 : out.length ≤ l.length) (hg : ∀ j, GuR (out.getD j default)) : Ok Tryz.prog 18 [.ptr 820 0, .agg (cat [.v (.int .i64 x.op), .v (.int .i64 x.w), .v (.int .u64 x.n)] (cat (arrA aI 3 x.k) []))] (look [(820, .cells [.ro 6 l.length ((l).map eNd), .own 821] 51), (821, .row 4 41 out.length ((out).map eGu))]) (.agg [.v (.int .u64 ((mapp_s l out x).lo)), .v (.int .u64 ((mapp_s l out x).hi)), .v (.int .u64 ((mapp_s l out x).z)), .v (.int .u64 ((mapp_s l out x).e))]) (postOf [(820, .cells [.ro 6 l.length ((l).map eNd), .own 821] 51), (821, .row 4 41 out.length ((out).map eGu))] []) := by
  unfold mapp_s
  obtain ⟨ga1, ga2, ga3, ga4⟩ : GuR (kid0_s l out x).1 := hg _; obtain ⟨gb1, gb2, gb3, gb4⟩ : GuR (kid1_s l out x).1 := hg _
  exact ok_run Tryz.func18 rfl rfl mixed 400 [(0, .nm 901), (1, .nm 902), (1002, .call [820, 821] [] (.tup [.agg [.v (.int .u64 ((kid0_s l out x).1.lo)), .v (.int .u64 ((kid0_s l out x).1.hi)), .v (.int .u64 ((kid0_s l out x).1.z)), .v (.int .u64 ((kid0_s l out x).1.e))], .v (.int .i64 ((kid0_s l out x).2))])), (1006, .nm 903), (2002, .call [820, 821] [] (.tup [.agg [.v (.int .u64 ((kid1_s l out x).1.lo)), .v (.int .u64 ((kid1_s l out x).1.hi)), .v (.int .u64 ((kid1_s l out x).1.z)), .v (.int .u64 ((kid1_s l out x).1.e))], .v (.int .i64 ((kid1_s l out x).2))])), (2006, .nm 904), (3007, .call [] [] (.agg [.v (.int .u64 ((sapp_s x.op ((kid0_s l out x).2) ((kid0_s l out x).1.lo) ((kid0_s l out x).1.hi) ((kid1_s l out x).1.lo) ((kid1_s l out x).1.hi)).1)), .v (.int .u64 ((sapp_s x.op ((kid0_s l out x).2) ((kid0_s l out x).1.lo) ((kid0_s l out x).1.hi) ((kid1_s l out x).1.lo) ((kid1_s l out x).1.hi)).2))])), (3015, .call [] [] (.agg [.v (.int .u64 ((kapp_s x.op ((kid0_s l out x).2) ((kid0_s l out x).1.z) ((kid0_s l out x).1.e) ((kid1_s l out x).1.z) ((kid1_s l out x).1.e)).1)), .v (.int .u64 ((kapp_s x.op ((kid0_s l out x).2) ((kid0_s l out x).1.z) ((kid0_s l out x).1.e) ((kid1_s l out x).1.z) ((kid1_s l out x).1.e)).2))]))] (all4 (kid0_ok l out x q h2) (kid1_ok l out x q h2) (sapp_ok x.op ((kid0_s l out x).2) ((kid0_s l out x).1.lo) ((kid0_s l out x).1.hi) ((kid1_s l out x).1.lo) ((kid1_s l out x).1.hi) (by omega) (by omega) (by omega) (by omega)) (kapp_ok x.op ((kid0_s l out x).2) ((kid0_s l out x).1.z) ((kid0_s l out x).1.e) ((kid1_s l out x).1.z) ((kid1_s l out x).1.e) )) (by kernel_rfl)

def ways_L : List AV := [fv 16, fv 17, fv 17, .v .nilFunc, .v .nilFunc, fv 18, fv 19, fv 20, fv 18, fv 18, fv 18, fv 18, fv 18, fv 18, fv 18, fv 18, fv 18, fv 18, fv 18, fv 18, fv 18, fv 18, fv 21, fv 17, .v .nilFunc]
set_option maxRecDepth 100000 in
theorem ways_ok : Ok Tryz.prog 10 [] (look []) (.agg ways_L) (postOf [] []) := by
  refine ok_head (T := [(0, .ptr 101 0), (1, .ptr 102 0), (2, .v (.int .i64 8))]) (H := [(101, .cells [.v .nilFunc, .v .nilFunc, .v .nilFunc, .v .nilFunc, .v .nilFunc, .v .nilFunc, .v .nilFunc, .v .nilFunc, .v .nilFunc, .v .nilFunc, .v .nilFunc, .v .nilFunc, .v .nilFunc, .v .nilFunc, .v .nilFunc, .v .nilFunc, .v .nilFunc, .v .nilFunc, .v .nilFunc, .v .nilFunc, .v .nilFunc, .v .nilFunc, .v .nilFunc, .v .nilFunc, .v .nilFunc] 53), (102, .cells [fv 16, fv 17, fv 17, .v .nilFunc, .v .nilFunc, fv 18, fv 19, fv 20, .v .nilFunc, .v .nilFunc, .v .nilFunc, .v .nilFunc, .v .nilFunc, .v .nilFunc, .v .nilFunc, .v .nilFunc, .v .nilFunc, .v .nilFunc, .v .nilFunc, .v .nilFunc, .v .nilFunc, .v .nilFunc, fv 21, fv 17, .v .nilFunc] 53)]) (todo := headAt Tryz.f10 0) Tryz.func10 rfl rfl mixed 400 [(0, .nm 101), (1001, .nm 102)] (all0) (by kernel_rfl) ?_
  refine good_head (T := [(0, .ptr 101 0), (1, .ptr 102 0), (2, .v (.int .i64 9)), (4, .v (.int .i64 8)), (5, .v (.bool true)), (6, .v (.int .i64 8)), (7, .v (.int .i64 9)), (8, .v (.int .i64 8)), (9, .ptr 102 8)]) (H := [(101, .cells [.v .nilFunc, .v .nilFunc, .v .nilFunc, .v .nilFunc, .v .nilFunc, .v .nilFunc, .v .nilFunc, .v .nilFunc, .v .nilFunc, .v .nilFunc, .v .nilFunc, .v .nilFunc, .v .nilFunc, .v .nilFunc, .v .nilFunc, .v .nilFunc, .v .nilFunc, .v .nilFunc, .v .nilFunc, .v .nilFunc, .v .nilFunc, .v .nilFunc, .v .nilFunc, .v .nilFunc, .v .nilFunc] 53), (102, .cells [fv 16, fv 17, fv 17, .v .nilFunc, .v .nilFunc, fv 18, fv 19, fv 20, fv 18, .v .nilFunc, .v .nilFunc, .v .nilFunc, .v .nilFunc, .v .nilFunc, .v .nilFunc, .v .nilFunc, .v .nilFunc, .v .nilFunc, .v .nilFunc, .v .nilFunc, .v .nilFunc, .v .nilFunc, fv 21, fv 17, .v .nilFunc] 53)]) (todo' := headAt Tryz.f10 0) Tryz.func10 mixed 400 [] (all0) (by kernel_rfl) ?_
  refine good_head (T := [(0, .ptr 101 0), (1, .ptr 102 0), (2, .v (.int .i64 10)), (4, .v (.int .i64 9)), (5, .v (.bool true)), (6, .v (.int .i64 9)), (7, .v (.int .i64 10)), (8, .v (.int .i64 9)), (9, .ptr 102 9)]) (H := [(101, .cells [.v .nilFunc, .v .nilFunc, .v .nilFunc, .v .nilFunc, .v .nilFunc, .v .nilFunc, .v .nilFunc, .v .nilFunc, .v .nilFunc, .v .nilFunc, .v .nilFunc, .v .nilFunc, .v .nilFunc, .v .nilFunc, .v .nilFunc, .v .nilFunc, .v .nilFunc, .v .nilFunc, .v .nilFunc, .v .nilFunc, .v .nilFunc, .v .nilFunc, .v .nilFunc, .v .nilFunc, .v .nilFunc] 53), (102, .cells [fv 16, fv 17, fv 17, .v .nilFunc, .v .nilFunc, fv 18, fv 19, fv 20, fv 18, fv 18, .v .nilFunc, .v .nilFunc, .v .nilFunc, .v .nilFunc, .v .nilFunc, .v .nilFunc, .v .nilFunc, .v .nilFunc, .v .nilFunc, .v .nilFunc, .v .nilFunc, .v .nilFunc, fv 21, fv 17, .v .nilFunc] 53)]) (todo' := headAt Tryz.f10 0) Tryz.func10 mixed 400 [] (all0) (by kernel_rfl) ?_
  refine good_head (T := [(0, .ptr 101 0), (1, .ptr 102 0), (2, .v (.int .i64 11)), (4, .v (.int .i64 10)), (5, .v (.bool true)), (6, .v (.int .i64 10)), (7, .v (.int .i64 11)), (8, .v (.int .i64 10)), (9, .ptr 102 10)]) (H := [(101, .cells [.v .nilFunc, .v .nilFunc, .v .nilFunc, .v .nilFunc, .v .nilFunc, .v .nilFunc, .v .nilFunc, .v .nilFunc, .v .nilFunc, .v .nilFunc, .v .nilFunc, .v .nilFunc, .v .nilFunc, .v .nilFunc, .v .nilFunc, .v .nilFunc, .v .nilFunc, .v .nilFunc, .v .nilFunc, .v .nilFunc, .v .nilFunc, .v .nilFunc, .v .nilFunc, .v .nilFunc, .v .nilFunc] 53), (102, .cells [fv 16, fv 17, fv 17, .v .nilFunc, .v .nilFunc, fv 18, fv 19, fv 20, fv 18, fv 18, fv 18, .v .nilFunc, .v .nilFunc, .v .nilFunc, .v .nilFunc, .v .nilFunc, .v .nilFunc, .v .nilFunc, .v .nilFunc, .v .nilFunc, .v .nilFunc, .v .nilFunc, fv 21, fv 17, .v .nilFunc] 53)]) (todo' := headAt Tryz.f10 0) Tryz.func10 mixed 400 [] (all0) (by kernel_rfl) ?_
  refine good_head (T := [(0, .ptr 101 0), (1, .ptr 102 0), (2, .v (.int .i64 12)), (4, .v (.int .i64 11)), (5, .v (.bool true)), (6, .v (.int .i64 11)), (7, .v (.int .i64 12)), (8, .v (.int .i64 11)), (9, .ptr 102 11)]) (H := [(101, .cells [.v .nilFunc, .v .nilFunc, .v .nilFunc, .v .nilFunc, .v .nilFunc, .v .nilFunc, .v .nilFunc, .v .nilFunc, .v .nilFunc, .v .nilFunc, .v .nilFunc, .v .nilFunc, .v .nilFunc, .v .nilFunc, .v .nilFunc, .v .nilFunc, .v .nilFunc, .v .nilFunc, .v .nilFunc, .v .nilFunc, .v .nilFunc, .v .nilFunc, .v .nilFunc, .v .nilFunc, .v .nilFunc] 53), (102, .cells [fv 16, fv 17, fv 17, .v .nilFunc, .v .nilFunc, fv 18, fv 19, fv 20, fv 18, fv 18, fv 18, fv 18, .v .nilFunc, .v .nilFunc, .v .nilFunc, .v .nilFunc, .v .nilFunc, .v .nilFunc, .v .nilFunc, .v .nilFunc, .v .nilFunc, .v .nilFunc, fv 21, fv 17, .v .nilFunc] 53)]) (todo' := headAt Tryz.f10 0) Tryz.func10 mixed 400 [] (all0) (by kernel_rfl) ?_
  refine good_head (T := [(0, .ptr 101 0), (1, .ptr 102 0), (2, .v (.int .i64 13)), (4, .v (.int .i64 12)), (5, .v (.bool true)), (6, .v (.int .i64 12)), (7, .v (.int .i64 13)), (8, .v (.int .i64 12)), (9, .ptr 102 12)]) (H := [(101, .cells [.v .nilFunc, .v .nilFunc, .v .nilFunc, .v .nilFunc, .v .nilFunc, .v .nilFunc, .v .nilFunc, .v .nilFunc, .v .nilFunc, .v .nilFunc, .v .nilFunc, .v .nilFunc, .v .nilFunc, .v .nilFunc, .v .nilFunc, .v .nilFunc, .v .nilFunc, .v .nilFunc, .v .nilFunc, .v .nilFunc, .v .nilFunc, .v .nilFunc, .v .nilFunc, .v .nilFunc, .v .nilFunc] 53), (102, .cells [fv 16, fv 17, fv 17, .v .nilFunc, .v .nilFunc, fv 18, fv 19, fv 20, fv 18, fv 18, fv 18, fv 18, fv 18, .v .nilFunc, .v .nilFunc, .v .nilFunc, .v .nilFunc, .v .nilFunc, .v .nilFunc, .v .nilFunc, .v .nilFunc, .v .nilFunc, fv 21, fv 17, .v .nilFunc] 53)]) (todo' := headAt Tryz.f10 0) Tryz.func10 mixed 400 [] (all0) (by kernel_rfl) ?_
  refine good_head (T := [(0, .ptr 101 0), (1, .ptr 102 0), (2, .v (.int .i64 14)), (4, .v (.int .i64 13)), (5, .v (.bool true)), (6, .v (.int .i64 13)), (7, .v (.int .i64 14)), (8, .v (.int .i64 13)), (9, .ptr 102 13)]) (H := [(101, .cells [.v .nilFunc, .v .nilFunc, .v .nilFunc, .v .nilFunc, .v .nilFunc, .v .nilFunc, .v .nilFunc, .v .nilFunc, .v .nilFunc, .v .nilFunc, .v .nilFunc, .v .nilFunc, .v .nilFunc, .v .nilFunc, .v .nilFunc, .v .nilFunc, .v .nilFunc, .v .nilFunc, .v .nilFunc, .v .nilFunc, .v .nilFunc, .v .nilFunc, .v .nilFunc, .v .nilFunc, .v .nilFunc] 53), (102, .cells [fv 16, fv 17, fv 17, .v .nilFunc, .v .nilFunc, fv 18, fv 19, fv 20, fv 18, fv 18, fv 18, fv 18, fv 18, fv 18, .v .nilFunc, .v .nilFunc, .v .nilFunc, .v .nilFunc, .v .nilFunc, .v .nilFunc, .v .nilFunc, .v .nilFunc, fv 21, fv 17, .v .nilFunc] 53)]) (todo' := headAt Tryz.f10 0) Tryz.func10 mixed 400 [] (all0) (by kernel_rfl) ?_
  refine good_head (T := [(0, .ptr 101 0), (1, .ptr 102 0), (2, .v (.int .i64 15)), (4, .v (.int .i64 14)), (5, .v (.bool true)), (6, .v (.int .i64 14)), (7, .v (.int .i64 15)), (8, .v (.int .i64 14)), (9, .ptr 102 14)]) (H := [(101, .cells [.v .nilFunc, .v .nilFunc, .v .nilFunc, .v .nilFunc, .v .nilFunc, .v .nilFunc, .v .nilFunc, .v .nilFunc, .v .nilFunc, .v .nilFunc, .v .nilFunc, .v .nilFunc, .v .nilFunc, .v .nilFunc, .v .nilFunc, .v .nilFunc, .v .nilFunc, .v .nilFunc, .v .nilFunc, .v .nilFunc, .v .nilFunc, .v .nilFunc, .v .nilFunc, .v .nilFunc, .v .nilFunc] 53), (102, .cells [fv 16, fv 17, fv 17, .v .nilFunc, .v .nilFunc, fv 18, fv 19, fv 20, fv 18, fv 18, fv 18, fv 18, fv 18, fv 18, fv 18, .v .nilFunc, .v .nilFunc, .v .nilFunc, .v .nilFunc, .v .nilFunc, .v .nilFunc, .v .nilFunc, fv 21, fv 17, .v .nilFunc] 53)]) (todo' := headAt Tryz.f10 0) Tryz.func10 mixed 400 [] (all0) (by kernel_rfl) ?_
  refine good_head (T := [(0, .ptr 101 0), (1, .ptr 102 0), (2, .v (.int .i64 16)), (4, .v (.int .i64 15)), (5, .v (.bool true)), (6, .v (.int .i64 15)), (7, .v (.int .i64 16)), (8, .v (.int .i64 15)), (9, .ptr 102 15)]) (H := [(101, .cells [.v .nilFunc, .v .nilFunc, .v .nilFunc, .v .nilFunc, .v .nilFunc, .v .nilFunc, .v .nilFunc, .v .nilFunc, .v .nilFunc, .v .nilFunc, .v .nilFunc, .v .nilFunc, .v .nilFunc, .v .nilFunc, .v .nilFunc, .v .nilFunc, .v .nilFunc, .v .nilFunc, .v .nilFunc, .v .nilFunc, .v .nilFunc, .v .nilFunc, .v .nilFunc, .v .nilFunc, .v .nilFunc] 53), (102, .cells [fv 16, fv 17, fv 17, .v .nilFunc, .v .nilFunc, fv 18, fv 19, fv 20, fv 18, fv 18, fv 18, fv 18, fv 18, fv 18, fv 18, fv 18, .v .nilFunc, .v .nilFunc, .v .nilFunc, .v .nilFunc, .v .nilFunc, .v .nilFunc, fv 21, fv 17, .v .nilFunc] 53)]) (todo' := headAt Tryz.f10 0) Tryz.func10 mixed 400 [] (all0) (by kernel_rfl) ?_
  refine good_head (T := [(0, .ptr 101 0), (1, .ptr 102 0), (2, .v (.int .i64 17)), (4, .v (.int .i64 16)), (5, .v (.bool true)), (6, .v (.int .i64 16)), (7, .v (.int .i64 17)), (8, .v (.int .i64 16)), (9, .ptr 102 16)]) (H := [(101, .cells [.v .nilFunc, .v .nilFunc, .v .nilFunc, .v .nilFunc, .v .nilFunc, .v .nilFunc, .v .nilFunc, .v .nilFunc, .v .nilFunc, .v .nilFunc, .v .nilFunc, .v .nilFunc, .v .nilFunc, .v .nilFunc, .v .nilFunc, .v .nilFunc, .v .nilFunc, .v .nilFunc, .v .nilFunc, .v .nilFunc, .v .nilFunc, .v .nilFunc, .v .nilFunc, .v .nilFunc, .v .nilFunc] 53), (102, .cells [fv 16, fv 17, fv 17, .v .nilFunc, .v .nilFunc, fv 18, fv 19, fv 20, fv 18, fv 18, fv 18, fv 18, fv 18, fv 18, fv 18, fv 18, fv 18, .v .nilFunc, .v .nilFunc, .v .nilFunc, .v .nilFunc, .v .nilFunc, fv 21, fv 17, .v .nilFunc] 53)]) (todo' := headAt Tryz.f10 0) Tryz.func10 mixed 400 [] (all0) (by kernel_rfl) ?_
  refine good_head (T := [(0, .ptr 101 0), (1, .ptr 102 0), (2, .v (.int .i64 18)), (4, .v (.int .i64 17)), (5, .v (.bool true)), (6, .v (.int .i64 17)), (7, .v (.int .i64 18)), (8, .v (.int .i64 17)), (9, .ptr 102 17)]) (H := [(101, .cells [.v .nilFunc, .v .nilFunc, .v .nilFunc, .v .nilFunc, .v .nilFunc, .v .nilFunc, .v .nilFunc, .v .nilFunc, .v .nilFunc, .v .nilFunc, .v .nilFunc, .v .nilFunc, .v .nilFunc, .v .nilFunc, .v .nilFunc, .v .nilFunc, .v .nilFunc, .v .nilFunc, .v .nilFunc, .v .nilFunc, .v .nilFunc, .v .nilFunc, .v .nilFunc, .v .nilFunc, .v .nilFunc] 53), (102, .cells [fv 16, fv 17, fv 17, .v .nilFunc, .v .nilFunc, fv 18, fv 19, fv 20, fv 18, fv 18, fv 18, fv 18, fv 18, fv 18, fv 18, fv 18, fv 18, fv 18, .v .nilFunc, .v .nilFunc, .v .nilFunc, .v .nilFunc, fv 21, fv 17, .v .nilFunc] 53)]) (todo' := headAt Tryz.f10 0) Tryz.func10 mixed 400 [] (all0) (by kernel_rfl) ?_
  refine good_head (T := [(0, .ptr 101 0), (1, .ptr 102 0), (2, .v (.int .i64 19)), (4, .v (.int .i64 18)), (5, .v (.bool true)), (6, .v (.int .i64 18)), (7, .v (.int .i64 19)), (8, .v (.int .i64 18)), (9, .ptr 102 18)]) (H := [(101, .cells [.v .nilFunc, .v .nilFunc, .v .nilFunc, .v .nilFunc, .v .nilFunc, .v .nilFunc, .v .nilFunc, .v .nilFunc, .v .nilFunc, .v .nilFunc, .v .nilFunc, .v .nilFunc, .v .nilFunc, .v .nilFunc, .v .nilFunc, .v .nilFunc, .v .nilFunc, .v .nilFunc, .v .nilFunc, .v .nilFunc, .v .nilFunc, .v .nilFunc, .v .nilFunc, .v .nilFunc, .v .nilFunc] 53), (102, .cells [fv 16, fv 17, fv 17, .v .nilFunc, .v .nilFunc, fv 18, fv 19, fv 20, fv 18, fv 18, fv 18, fv 18, fv 18, fv 18, fv 18, fv 18, fv 18, fv 18, fv 18, .v .nilFunc, .v .nilFunc, .v .nilFunc, fv 21, fv 17, .v .nilFunc] 53)]) (todo' := headAt Tryz.f10 0) Tryz.func10 mixed 400 [] (all0) (by kernel_rfl) ?_
  refine good_head (T := [(0, .ptr 101 0), (1, .ptr 102 0), (2, .v (.int .i64 20)), (4, .v (.int .i64 19)), (5, .v (.bool true)), (6, .v (.int .i64 19)), (7, .v (.int .i64 20)), (8, .v (.int .i64 19)), (9, .ptr 102 19)]) (H := [(101, .cells [.v .nilFunc, .v .nilFunc, .v .nilFunc, .v .nilFunc, .v .nilFunc, .v .nilFunc, .v .nilFunc, .v .nilFunc, .v .nilFunc, .v .nilFunc, .v .nilFunc, .v .nilFunc, .v .nilFunc, .v .nilFunc, .v .nilFunc, .v .nilFunc, .v .nilFunc, .v .nilFunc, .v .nilFunc, .v .nilFunc, .v .nilFunc, .v .nilFunc, .v .nilFunc, .v .nilFunc, .v .nilFunc] 53), (102, .cells [fv 16, fv 17, fv 17, .v .nilFunc, .v .nilFunc, fv 18, fv 19, fv 20, fv 18, fv 18, fv 18, fv 18, fv 18, fv 18, fv 18, fv 18, fv 18, fv 18, fv 18, fv 18, .v .nilFunc, .v .nilFunc, fv 21, fv 17, .v .nilFunc] 53)]) (todo' := headAt Tryz.f10 0) Tryz.func10 mixed 400 [] (all0) (by kernel_rfl) ?_
  refine good_head (T := [(0, .ptr 101 0), (1, .ptr 102 0), (2, .v (.int .i64 21)), (4, .v (.int .i64 20)), (5, .v (.bool true)), (6, .v (.int .i64 20)), (7, .v (.int .i64 21)), (8, .v (.int .i64 20)), (9, .ptr 102 20)]) (H := [(101, .cells [.v .nilFunc, .v .nilFunc, .v .nilFunc, .v .nilFunc, .v .nilFunc, .v .nilFunc, .v .nilFunc, .v .nilFunc, .v .nilFunc, .v .nilFunc, .v .nilFunc, .v .nilFunc, .v .nilFunc, .v .nilFunc, .v .nilFunc, .v .nilFunc, .v .nilFunc, .v .nilFunc, .v .nilFunc, .v .nilFunc, .v .nilFunc, .v .nilFunc, .v .nilFunc, .v .nilFunc, .v .nilFunc] 53), (102, .cells [fv 16, fv 17, fv 17, .v .nilFunc, .v .nilFunc, fv 18, fv 19, fv 20, fv 18, fv 18, fv 18, fv 18, fv 18, fv 18, fv 18, fv 18, fv 18, fv 18, fv 18, fv 18, fv 18, .v .nilFunc, fv 21, fv 17, .v .nilFunc] 53)]) (todo' := headAt Tryz.f10 0) Tryz.func10 mixed 400 [] (all0) (by kernel_rfl) ?_
  refine good_head (T := [(0, .ptr 101 0), (1, .ptr 102 0), (2, .v (.int .i64 22)), (4, .v (.int .i64 21)), (5, .v (.bool true)), (6, .v (.int .i64 21)), (7, .v (.int .i64 22)), (8, .v (.int .i64 21)), (9, .ptr 102 21)]) (H := [(101, .cells [.v .nilFunc, .v .nilFunc, .v .nilFunc, .v .nilFunc, .v .nilFunc, .v .nilFunc, .v .nilFunc, .v .nilFunc, .v .nilFunc, .v .nilFunc, .v .nilFunc, .v .nilFunc, .v .nilFunc, .v .nilFunc, .v .nilFunc, .v .nilFunc, .v .nilFunc, .v .nilFunc, .v .nilFunc, .v .nilFunc, .v .nilFunc, .v .nilFunc, .v .nilFunc, .v .nilFunc, .v .nilFunc] 53), (102, .cells [fv 16, fv 17, fv 17, .v .nilFunc, .v .nilFunc, fv 18, fv 19, fv 20, fv 18, fv 18, fv 18, fv 18, fv 18, fv 18, fv 18, fv 18, fv 18, fv 18, fv 18, fv 18, fv 18, fv 18, fv 21, fv 17, .v .nilFunc] 53)]) (todo' := headAt Tryz.f10 0) Tryz.func10 mixed 400 [] (all0) (by kernel_rfl) ?_
  exact good_run Tryz.func10 mixed 400 [] (all0) (by kernel_rfl)
end Go.Proofs.YtdfifogicefkjaaGreatDoor.Sx.M5
