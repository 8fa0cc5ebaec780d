/- What the functions of a chapter compute, as contracts; written by a program of this session. -/
import Derived.Test.YtahobmjchppciaaDoorN1
import Derived.Test.YtahobmjchppciaaDoorSy
import Derived.Test.YtahobmjchppciaaDoorKz
open Go Go.Proofs Go.RowKit
namespace Go.Proofs.YtahobmjchppciaaDoor.Sx.M5
set_option linter.unusedVariables false
set_option linter.unusedSimpArgs false
theorem bif0 {b : Bool} {x y : Int} (h : (bif b then x else y) = 0) (hx : x ≠ 0) : b = false ∧ y = 0 := by
  cases b with
  | true => exact absurd h hx
  | false => exact ⟨rfl, h⟩
theorem bifF {b : Bool} {α : Type} {x : α} {y : α × Bool} (h : (bif b then (x, false) else y).2 = true) : b = false ∧ y.2 = true := by
  cases b with
  | true => cases h
  | false => exact ⟨rfl, h⟩
theorem kids_pos {op : Int} (h1 : 5 ≤ op) (h2 : op ≤ 24) : 1 ≤ kids_s op := by
  unfold kids_s
  rw [decide_eq_false (by omega : ¬ op < 5), decide_eq_false (by omega : ¬ op > 24)]
  cases decide (op ≤ (7 : Int)) <;> cases decide (op ≤ (21 : Int)) <;> cases op == (23 : Int) <;> decide
theorem tkid_l0_t {x : Nd} {l : List Nd} : ∀ (m : Nat) (f : Nat → Int) (i : Int), 0 ≤ i → (3 - i).toNat < m → (tkid_l0 x l m f i).2 = true → ∀ j : Nat, i ≤ j → j < 3 → ((j : Int) < kids_s x.op → 0 ≤ x.k j ∧ x.k j < l.length) ∧ (kids_s x.op ≤ (j : Int) → x.k j = 0) := by
  intro m
  induction m with
  | zero => intro f i _ hm; omega
  | succ m ih =>
    intro f i hi hm h j hj hj3
    rw [tkid_l0, decide_eq_true (by omega : i < 3), cond_true] at h
    by_cases e : i = j
    · subst e
      rw [Int.toNat_natCast] at h
      cases c : decide ((j : Int) ≥ kids_s x.op) with
      | true =>
        have c1 := of_decide_eq_true c
        rw [c, cond_true] at h
        have := (bifF h).1
        exact ⟨fun q => by omega, fun _ => by simpa using this⟩
      | false =>
        have c1 := of_decide_eq_false c
        rw [c, cond_false] at h
        obtain ⟨a1, h⟩ := bifF h
        have a2 := (bifF h).1
        exact ⟨fun _ => ⟨by simpa using a1, by simpa using a2⟩, fun q => by omega⟩
    · have step : ∃ f', (tkid_l0 x l m f' (i + 1)).2 = true := by
        cases c : decide (i ≥ kids_s x.op) with
        | true => rw [c, cond_true] at h; exact ⟨_, (bifF h).2⟩
        | false => rw [c, cond_false] at h; exact ⟨_, (bifF (bifF h).2).2⟩
      obtain ⟨f', h'⟩ := step
      exact ih f' (i + 1) (by omega) (by omega) h' j (by omega) hj3
theorem twid7 {x : Nd} {k : Nat → Int} (h : twid_s x k = true) : x.op = 7 → x.w = 8 := by
  intro h0
  obtain ⟨op, w, n, q⟩ := x
  obtain rfl : op = 7 := h0
  have h : (bif w == (8 : Int) then ((k 0) == (64 : Int)) else false) = true := h
  show w = 8
  cases c : w == (8 : Int) with
  | true => exact eq_of_beq c
  | false => rw [c] at h; cases h
theorem tnum2 {x : Nd} (h : tnum_s x = true) : x.op = 2 → x.n < 8 := by
  intro h0
  obtain ⟨op, w, n, q⟩ := x
  obtain rfl : op = 2 := h0
  exact of_decide_eq_true (show decide (n < 8) = true from h)
theorem trig_t {x : Nd} {l : List Nd} (h : trig_s x l = 0) : NdOk x l.length := by
  unfold trig_s at h
  obtain ⟨a1, h⟩ := bif0 h (by decide)
  obtain ⟨a2, h⟩ := bif0 h (by decide)
  obtain ⟨a3, h⟩ := bif0 h (by decide)
  obtain ⟨a4, h⟩ := bif0 h (by decide)
  obtain ⟨a5, _⟩ := bif0 h (by decide)
  have a1 := of_decide_eq_false a1
  have a2 := of_decide_eq_false a2
  refine ⟨by omega, fun h5 m hm => ?_, twid7 (notF a4), tnum2 (notF a5)⟩
  have q := tkid_l0_t (x := x) (l := l) _ (fun _ => 0) 0 (by omega) (Nat.lt_succ_self _) (notF a3)
  have kp := kids_pos h5 (by omega)
  have q0 := (q 0 (by omega) (by decide)).1 (by omega)
  have qm := q m (by omega) hm
  by_cases c : (m : Int) < kids_s x.op
  · exact qm.1 c
  · have e := qm.2 (by omega)
    rw [e]; omega
theorem tchk_l0_t {l : List Nd} : ∀ (m : Nat) (i : Int), 0 ≤ i → i ≤ l.length → l.length - i.toNat < m → (tchk_l0 l m i).1 = 0 → ∀ j : Nat, i ≤ j → j < l.length → trig_s (l.getD j default) ((l.take j).drop 0) = 0 := by
  intro m
  induction m with
  | zero => intro i _ _ hm; omega
  | succ m ih =>
    intro i h0 h1 hm h j hj hl
    rw [tchk_l0, decide_eq_true (by omega : i < (l.length : Int)), cond_true] at h
    cases c1 : (i == (65536 : Int)) with
    | true => rw [c1] at h; cases h
    | false =>
      rw [c1, cond_false] at h
      cases c2 : (trig_s (l.getD (i.toNat) default) ((l.take (i.toNat)).drop 0) != (0 : Int)) with
      | true =>
        rw [c2, cond_true] at h
        exact absurd h (by simpa using c2)
      | false =>
        rw [c2, cond_false] at h
        by_cases e : i = j
        · subst e
          rw [Int.toNat_natCast] at c2
          simpa using c2
        · exact ih (i + 1) (by omega) (by omega) (by omega) h j (by omega) hl
theorem nds_of_chk {l : List Nd} (h : (tchk_s l).1 = 0) : NdsOk l ∧ 1 ≤ l.length := by
  unfold tchk_s at h
  cases c : ((l.length : Int) == (0 : Int)) with
  | true => rw [c] at h; cases h
  | false =>
    rw [c, cond_false] at h
    have c : ¬ (l.length : Int) = 0 := by simpa using c
    refine ⟨fun j hj => ?_, by omega⟩
    have := trig_t (tchk_l0_t _ _ (by omega) (by omega) (Nat.lt_succ_self _) h j (by omega) hj)
    rwa [List.drop_zero, List.length_take, Nat.min_eq_left (by omega)] at this
theorem gu_app {out : List Gu} {g : Gu} (h : ∀ j, GuR (out.getD j default)) (hg : GuR g) : ∀ j, GuR ((out ++ [g]).getD j default) := by
  intro j
  have := h j
  rw [List.getD_eq_getElem?_getD] at *
  by_cases c : j < out.length
  · rwa [List.getElem?_append_left c]
  · rw [List.getElem?_append_right (by omega)]
    by_cases e : j = out.length
    · rw [e, Nat.sub_self]; exact hg
    · rw [List.getElem?_eq_none (by simp; omega)]
      have h0 : (0 : Int) < 18446744073709551616 := by decide
      exact ⟨⟨Int.le_refl 0, h0⟩, ⟨Int.le_refl 0, h0⟩, ⟨Int.le_refl 0, h0⟩, ⟨Int.le_refl 0, h0⟩⟩
theorem gu_zero : GuR ⟨0, 0, 0, 0⟩ := by
  have h0 : (0 : Int) < 18446744073709551616 := by decide
  exact ⟨⟨Int.le_refl 0, h0⟩, ⟨Int.le_refl 0, h0⟩, ⟨Int.le_refl 0, h0⟩, ⟨Int.le_refl 0, h0⟩⟩
theorem gu_nil : ∀ j, GuR (([] : List Gu).getD j default) := fun _ => gu_zero
theorem ndq {l : List Nd} {out : List Gu} {i : Nat} (hv : NdsOk l) (hi : i < l.length) (ho : out.length = i) (h5 : 5 ≤ (l.getD i default).op) : ∀ m, m < 3 → 0 ≤ (l.getD i default).k m ∧ (l.getD i default).k m < out.length := fun m hm => by
  rw [ho]; exact (hv i hi).k h5 m hm

def gwho_s (w : Int) : Gu := (⟨0, (mask_s w), 0, 0⟩ : Gu)
set_option maxRecDepth 100000 in
theorem gwho_ok (w : Int)  : Ok Tryd.prog 27 [.v (.int .i64 w)] (look []) (.agg [.v (.int .u64 ((gwho_s w).lo)), .v (.int .u64 ((gwho_s w).hi)), .v (.int .u64 ((gwho_s w).z)), .v (.int .u64 ((gwho_s w).e))]) (postOf [] []) := by
  unfold gwho_s
  exact ok_run Tryd.func27 rfl rfl mixed 400 [(0, .nm 701), (1001, .call [] [] (.v (.int .u64 (mask_s w))))] (all1 (mask_ok w )) (by kernel_rfl)

def gtig_c4 (w : Int) (g : Gu) (lo : Int) (hi : Int) (z : Int) (e : Int) : Gu := (bif decide (lo > hi) then (gwho_s w) else (bif !((kmee_s w z e (Go.bits .andNot .u64 ((kof_s w lo).1) (IntKind.u64.wrap ((IntKind.u64.wrap (1 * 2 ^ min ((len64_s (Go.bits .xor .u64 lo hi)).toNat) 64)) - 1))) (Go.bits .andNot .u64 ((kof_s w lo).2) (IntKind.u64.wrap ((IntKind.u64.wrap (1 * 2 ^ min ((len64_s (Go.bits .xor .u64 lo hi)).toNat) 64)) - 1)))).2.2) then (gwho_s w) else (⟨lo, hi, (kmee_s w z e (Go.bits .andNot .u64 ((kof_s w lo).1) (IntKind.u64.wrap ((IntKind.u64.wrap (1 * 2 ^ min ((len64_s (Go.bits .xor .u64 lo hi)).toNat) 64)) - 1))) (Go.bits .andNot .u64 ((kof_s w lo).2) (IntKind.u64.wrap ((IntKind.u64.wrap (1 * 2 ^ min ((len64_s (Go.bits .xor .u64 lo hi)).toNat) 64)) - 1)))).1, (kmee_s w z e (Go.bits .andNot .u64 ((kof_s w lo).1) (IntKind.u64.wrap ((IntKind.u64.wrap (1 * 2 ^ min ((len64_s (Go.bits .xor .u64 lo hi)).toNat) 64)) - 1))) (Go.bits .andNot .u64 ((kof_s w lo).2) (IntKind.u64.wrap ((IntKind.u64.wrap (1 * 2 ^ min ((len64_s (Go.bits .xor .u64 lo hi)).toNat) 64)) - 1)))).2.1⟩ : Gu)))
set_option maxRecDepth 100000 in
theorem gtig_c4ok (w : Int) (g : Gu)  (lo : Int) (hi : Int) (z : Int) (e : Int)  : Good Tryd.prog 14 Tryd.f14.ntmps (look []) false (.agg [.v (.int .u64 ((gtig_c4 w g lo hi z e).lo)), .v (.int .u64 ((gtig_c4 w g lo hi z e).hi)), .v (.int .u64 ((gtig_c4 w g lo hi z e).z)), .v (.int .u64 ((gtig_c4 w g lo hi z e).e))]) (postOf [] []) (cutAt Tryd.f14 4) [(0, .v (.int .i64 w)), (4, .ptr 702 0), (5, .ptr 825 0), (6, .ptr 826 0)] [(701, .cells [.v (.int .u64 g.lo), .v (.int .u64 g.hi), .v (.int .u64 g.z), .v (.int .u64 g.e)] 45), (702, .cells [.v (.int .u64 0), .v (.int .u64 0), .v (.int .u64 0), .v (.int .u64 0)] 45), (825, .cells [.v (.int .u64 lo), .v (.int .u64 hi)] 41), (826, .cells [.v (.int .u64 z), .v (.int .u64 e)] 43)] := by
  unfold gtig_c4
  cases h4004 : (decide (lo > hi))
  · have p4004 := of_decide_eq_false h4004
    cases h10001 : (!((kmee_s w z e (Go.bits .andNot .u64 ((kof_s w lo).1) (IntKind.u64.wrap ((IntKind.u64.wrap (1 * 2 ^ min ((len64_s (Go.bits .xor .u64 lo hi)).toNat) 64)) - 1))) (Go.bits .andNot .u64 ((kof_s w lo).2) (IntKind.u64.wrap ((IntKind.u64.wrap (1 * 2 ^ min ((len64_s (Go.bits .xor .u64 lo hi)).toNat) 64)) - 1)))).2.2))
    · have p10001 := notF h10001
      exact good_run Tryd.func14 mixed 400 [(4004, .b false), (6005, .call [] [] (.v (.int .i64 (len64_s (Go.bits .xor .u64 lo hi))))), (6006, .nat 0), (7003, .call [] [] (.agg [.v (.int .u64 ((kof_s w lo).1)), .v (.int .u64 ((kof_s w lo).2))])), (7004, .nm 751), (9003, .call [] [] (.tup [.agg [.v (.int .u64 ((kmee_s w z e (Go.bits .andNot .u64 ((kof_s w lo).1) (IntKind.u64.wrap ((IntKind.u64.wrap (1 * 2 ^ min ((len64_s (Go.bits .xor .u64 lo hi)).toNat) 64)) - 1))) (Go.bits .andNot .u64 ((kof_s w lo).2) (IntKind.u64.wrap ((IntKind.u64.wrap (1 * 2 ^ min ((len64_s (Go.bits .xor .u64 lo hi)).toNat) 64)) - 1)))).1)), .v (.int .u64 ((kmee_s w z e (Go.bits .andNot .u64 ((kof_s w lo).1) (IntKind.u64.wrap ((IntKind.u64.wrap (1 * 2 ^ min ((len64_s (Go.bits .xor .u64 lo hi)).toNat) 64)) - 1))) (Go.bits .andNot .u64 ((kof_s w lo).2) (IntKind.u64.wrap ((IntKind.u64.wrap (1 * 2 ^ min ((len64_s (Go.bits .xor .u64 lo hi)).toNat) 64)) - 1)))).2.1))], .v (.bool ((kmee_s w z e (Go.bits .andNot .u64 ((kof_s w lo).1) (IntKind.u64.wrap ((IntKind.u64.wrap (1 * 2 ^ min ((len64_s (Go.bits .xor .u64 lo hi)).toNat) 64)) - 1))) (Go.bits .andNot .u64 ((kof_s w lo).2) (IntKind.u64.wrap ((IntKind.u64.wrap (1 * 2 ^ min ((len64_s (Go.bits .xor .u64 lo hi)).toNat) 64)) - 1)))).2.2))])), (10001, .b false)] (all6 h4004 (len64_ok (Go.bits .xor .u64 lo hi) (bits_u64_rng _ _ _)) (show (0 : Int) ≤ (len64_s (Go.bits .xor .u64 lo hi)) by have := len64_rng (Go.bits .xor .u64 lo hi); omega) (kof_ok w lo ) (kmee_ok w z e (Go.bits .andNot .u64 ((kof_s w lo).1) (IntKind.u64.wrap ((IntKind.u64.wrap (1 * 2 ^ min ((len64_s (Go.bits .xor .u64 lo hi)).toNat) 64)) - 1))) (Go.bits .andNot .u64 ((kof_s w lo).2) (IntKind.u64.wrap ((IntKind.u64.wrap (1 * 2 ^ min ((len64_s (Go.bits .xor .u64 lo hi)).toNat) 64)) - 1))) ) h10001) (by kernel_rfl)
    · have p10001 := notT h10001
      exact good_run Tryd.func14 mixed 400 [(4004, .b false), (6005, .call [] [] (.v (.int .i64 (len64_s (Go.bits .xor .u64 lo hi))))), (6006, .nat 0), (7003, .call [] [] (.agg [.v (.int .u64 ((kof_s w lo).1)), .v (.int .u64 ((kof_s w lo).2))])), (7004, .nm 751), (9003, .call [] [] (.tup [.agg [.v (.int .u64 ((kmee_s w z e (Go.bits .andNot .u64 ((kof_s w lo).1) (IntKind.u64.wrap ((IntKind.u64.wrap (1 * 2 ^ min ((len64_s (Go.bits .xor .u64 lo hi)).toNat) 64)) - 1))) (Go.bits .andNot .u64 ((kof_s w lo).2) (IntKind.u64.wrap ((IntKind.u64.wrap (1 * 2 ^ min ((len64_s (Go.bits .xor .u64 lo hi)).toNat) 64)) - 1)))).1)), .v (.int .u64 ((kmee_s w z e (Go.bits .andNot .u64 ((kof_s w lo).1) (IntKind.u64.wrap ((IntKind.u64.wrap (1 * 2 ^ min ((len64_s (Go.bits .xor .u64 lo hi)).toNat) 64)) - 1))) (Go.bits .andNot .u64 ((kof_s w lo).2) (IntKind.u64.wrap ((IntKind.u64.wrap (1 * 2 ^ min ((len64_s (Go.bits .xor .u64 lo hi)).toNat) 64)) - 1)))).2.1))], .v (.bool ((kmee_s w z e (Go.bits .andNot .u64 ((kof_s w lo).1) (IntKind.u64.wrap ((IntKind.u64.wrap (1 * 2 ^ min ((len64_s (Go.bits .xor .u64 lo hi)).toNat) 64)) - 1))) (Go.bits .andNot .u64 ((kof_s w lo).2) (IntKind.u64.wrap ((IntKind.u64.wrap (1 * 2 ^ min ((len64_s (Go.bits .xor .u64 lo hi)).toNat) 64)) - 1)))).2.2))])), (10001, .b true), (11001, .call [] [] (.agg [.v (.int .u64 ((gwho_s w).lo)), .v (.int .u64 ((gwho_s w).hi)), .v (.int .u64 ((gwho_s w).z)), .v (.int .u64 ((gwho_s w).e))]))] (all7 h4004 (len64_ok (Go.bits .xor .u64 lo hi) (bits_u64_rng _ _ _)) (show (0 : Int) ≤ (len64_s (Go.bits .xor .u64 lo hi)) by have := len64_rng (Go.bits .xor .u64 lo hi); omega) (kof_ok w lo ) (kmee_ok w z e (Go.bits .andNot .u64 ((kof_s w lo).1) (IntKind.u64.wrap ((IntKind.u64.wrap (1 * 2 ^ min ((len64_s (Go.bits .xor .u64 lo hi)).toNat) 64)) - 1))) (Go.bits .andNot .u64 ((kof_s w lo).2) (IntKind.u64.wrap ((IntKind.u64.wrap (1 * 2 ^ min ((len64_s (Go.bits .xor .u64 lo hi)).toNat) 64)) - 1))) ) h10001 (gwho_ok w )) (by kernel_rfl)
  · have p4004 := of_decide_eq_true h4004
    exact good_run Tryd.func14 mixed 400 [(4004, .b true), (5001, .call [] [] (.agg [.v (.int .u64 ((gwho_s w).lo)), .v (.int .u64 ((gwho_s w).hi)), .v (.int .u64 ((gwho_s w).z)), .v (.int .u64 ((gwho_s w).e))]))] (all2 h4004 (gwho_ok w )) (by kernel_rfl)
def gtig_s (w : Int) (g : Gu) : Gu := (gtig_c4 w g (max ((srig_s w g.lo g.hi).1) ((krig_s w g.z g.e).2)) (min ((srig_s w g.lo g.hi).2) (Go.bits .andNot .u64 (mask_s w) ((krig_s w g.z g.e).1))) ((krig_s w g.z g.e).1) ((krig_s w g.z g.e).2))
set_option maxRecDepth 100000 in
theorem gtig_ok (w : Int) (g : Gu)  : Ok Tryd.prog 14 [.v (.int .i64 w), .agg [.v (.int .u64 g.lo), .v (.int .u64 g.hi), .v (.int .u64 g.z), .v (.int .u64 g.e)]] (look []) (.agg [.v (.int .u64 ((gtig_s w g).lo)), .v (.int .u64 ((gtig_s w g).hi)), .v (.int .u64 ((gtig_s w g).z)), .v (.int .u64 ((gtig_s w g).e))]) (postOf [] []) := by
  unfold gtig_s
  refine ok_head (T := [(0, .v (.int .i64 w)), (4, .ptr 702 0), (5, .ptr 825 0), (6, .ptr 826 0)]) (H := [(701, .cells [.v (.int .u64 g.lo), .v (.int .u64 g.hi), .v (.int .u64 g.z), .v (.int .u64 g.e)] 45), (702, .cells [.v (.int .u64 0), .v (.int .u64 0), .v (.int .u64 0), .v (.int .u64 0)] 45), (825, .cells [.v (.int .u64 (max ((srig_s w g.lo g.hi).1) ((krig_s w g.z g.e).2))), .v (.int .u64 (min ((srig_s w g.lo g.hi).2) (Go.bits .andNot .u64 (mask_s w) ((krig_s w g.z g.e).1))))] 41), (826, .cells [.v (.int .u64 ((krig_s w g.z g.e).1)), .v (.int .u64 ((krig_s w g.z g.e).2))] 43)]) (todo := cutAt Tryd.f14 4) Tryd.func14 rfl rfl mixed 400 [(0, .nm 701), (1, .nm 702), (1003, .call [] [] (.agg [.v (.int .u64 ((srig_s w g.lo g.hi).1)), .v (.int .u64 ((srig_s w g.lo g.hi).2))])), (1007, .call [] [] (.agg [.v (.int .u64 ((krig_s w g.z g.e).1)), .v (.int .u64 ((krig_s w g.z g.e).2))])), (1008, .nm 825), (1009, .nm 826), (2004, .as_ (.v (.int .u64 (max ((srig_s w g.lo g.hi).1) ((krig_s w g.z g.e).2))))), (3003, .call [] [] (.v (.int .u64 (mask_s w)))), (3007, .as_ (.v (.int .u64 (min ((srig_s w g.lo g.hi).2) (Go.bits .andNot .u64 (mask_s w) ((krig_s w g.z g.e).1)))))), (4999, .b true)] (all5 (srig_ok w g.lo g.hi ) (krig_ok w g.z g.e ) (maxE .u64 ((srig_s w g.lo g.hi).1) ((krig_s w g.z g.e).2)) (mask_ok w ) (minE .u64 ((srig_s w g.lo g.hi).2) (Go.bits .andNot .u64 (mask_s w) ((krig_s w g.z g.e).1)))) (by kernel_rfl) ?_
  exact gtig_c4ok w g (max ((srig_s w g.lo g.hi).1) ((krig_s w g.z g.e).2)) (min ((srig_s w g.lo g.hi).2) (Go.bits .andNot .u64 (mask_s w) ((krig_s w g.z g.e).1))) ((krig_s w g.z g.e).1) ((krig_s w g.z g.e).2) 

def kid0_s (l : List Nd) (out : List Gu) (x : Nd) : Gu × Int := ((out.getD ((x.k 0).toNat) default), (l.getD ((x.k 0).toNat) default).w)
set_option maxRecDepth 100000 in
theorem kid0_ok (l : List Nd) (out : List Gu) (x : Nd) (q : ∀ m, m < 3 → 0 ≤ x.k m ∧ x.k m < out.length) (h2 : out.length ≤ l.length) : Ok Tryd.prog 40 [.ptr 820 0, .agg (cat [.v (.int .i64 x.op), .v (.int .i64 x.w), .v (.int .u64 x.n)] (cat (arrA aI 3 x.k) [])), .v (.int .i64 0)] (look [(820, .cells [.ro 6 l.length ((l).map eNd), .own 821] 54), (821, .row 4 45 out.length ((out).map eGu))]) (.tup [.agg [.v (.int .u64 ((kid0_s l out x).1.lo)), .v (.int .u64 ((kid0_s l out x).1.hi)), .v (.int .u64 ((kid0_s l out x).1.z)), .v (.int .u64 ((kid0_s l out x).1.e))], .v (.int .i64 ((kid0_s l out x).2))]) (postOf [(820, .cells [.ro 6 l.length ((l).map eNd), .own 821] 54), (821, .row 4 45 out.length ((out).map eGu))] []) := by
  unfold kid0_s
  have q0 := q 0 (by decide); have q1 := q 1 (by decide); have q2 := q 2 (by decide)
  exact ok_run Tryd.func40 rfl rfl mixed 400 [(0, .nm 901), (1, .nm 902), (1009, .el (eGu (out.getD ((x.k 0).toNat) default))), (1018, .el (eNd (l.getD ((x.k 0).toNat) default)))] (all5 (show (0 : Int) ≤ x.k 0 by omega) (show (x.k 0 : Int) < out.length by omega) (getg (l := out) (n := (x.k 0).toNat) eGu default (by omega)) (show (0 : Int) ≤ x.k 0 by omega) (getg (l := l) (n := (x.k 0).toNat) eNd default (by omega))) (by kernel_rfl)

def kid1_s (l : List Nd) (out : List Gu) (x : Nd) : Gu × Int := ((out.getD ((x.k 1).toNat) default), (l.getD ((x.k 1).toNat) default).w)
set_option maxRecDepth 100000 in
theorem kid1_ok (l : List Nd) (out : List Gu) (x : Nd) (q : ∀ m, m < 3 → 0 ≤ x.k m ∧ x.k m < out.length) (h2 : out.length ≤ l.length) : Ok Tryd.prog 40 [.ptr 820 0, .agg (cat [.v (.int .i64 x.op), .v (.int .i64 x.w), .v (.int .u64 x.n)] (cat (arrA aI 3 x.k) [])), .v (.int .i64 1)] (look [(820, .cells [.ro 6 l.length ((l).map eNd), .own 821] 54), (821, .row 4 45 out.length ((out).map eGu))]) (.tup [.agg [.v (.int .u64 ((kid1_s l out x).1.lo)), .v (.int .u64 ((kid1_s l out x).1.hi)), .v (.int .u64 ((kid1_s l out x).1.z)), .v (.int .u64 ((kid1_s l out x).1.e))], .v (.int .i64 ((kid1_s l out x).2))]) (postOf [(820, .cells [.ro 6 l.length ((l).map eNd), .own 821] 54), (821, .row 4 45 out.length ((out).map eGu))] []) := by
  unfold kid1_s
  have q0 := q 0 (by decide); have q1 := q 1 (by decide); have q2 := q 2 (by decide)
  exact ok_run Tryd.func40 rfl rfl mixed 400 [(0, .nm 901), (1, .nm 902), (1009, .el (eGu (out.getD ((x.k 1).toNat) default))), (1018, .el (eNd (l.getD ((x.k 1).toNat) default)))] (all5 (show (0 : Int) ≤ x.k 1 by omega) (show (x.k 1 : Int) < out.length by omega) (getg (l := out) (n := (x.k 1).toNat) eGu default (by omega)) (show (0 : Int) ≤ x.k 1 by omega) (getg (l := l) (n := (x.k 1).toNat) eNd default (by omega))) (by kernel_rfl)

def kid2_s (l : List Nd) (out : List Gu) (x : Nd) : Gu × Int := ((out.getD ((x.k 2).toNat) default), (l.getD ((x.k 2).toNat) default).w)
set_option maxRecDepth 100000 in
theorem kid2_ok (l : List Nd) (out : List Gu) (x : Nd) (q : ∀ m, m < 3 → 0 ≤ x.k m ∧ x.k m < out.length) (h2 : out.length ≤ l.length) : Ok Tryd.prog 40 [.ptr 820 0, .agg (cat [.v (.int .i64 x.op), .v (.int .i64 x.w), .v (.int .u64 x.n)] (cat (arrA aI 3 x.k) [])), .v (.int .i64 2)] (look [(820, .cells [.ro 6 l.length ((l).map eNd), .own 821] 54), (821, .row 4 45 out.length ((out).map eGu))]) (.tup [.agg [.v (.int .u64 ((kid2_s l out x).1.lo)), .v (.int .u64 ((kid2_s l out x).1.hi)), .v (.int .u64 ((kid2_s l out x).1.z)), .v (.int .u64 ((kid2_s l out x).1.e))], .v (.int .i64 ((kid2_s l out x).2))]) (postOf [(820, .cells [.ro 6 l.length ((l).map eNd), .own 821] 54), (821, .row 4 45 out.length ((out).map eGu))] []) := by
  unfold kid2_s
  have q0 := q 0 (by decide); have q1 := q 1 (by decide); have q2 := q 2 (by decide)
  exact ok_run Tryd.func40 rfl rfl mixed 400 [(0, .nm 901), (1, .nm 902), (1009, .el (eGu (out.getD ((x.k 2).toNat) default))), (1018, .el (eNd (l.getD ((x.k 2).toNat) default)))] (all5 (show (0 : Int) ≤ x.k 2 by omega) (show (x.k 2 : Int) < out.length by omega) (getg (l := out) (n := (x.k 2).toNat) eGu default (by omega)) (show (0 : Int) ≤ x.k 2 by omega) (getg (l := l) (n := (x.k 2).toNat) eNd default (by omega))) (by kernel_rfl)

def mcon_s (l : List Nd) (out : List Gu) (x : Nd) : Gu := (⟨x.n, x.n, (kof_s x.w x.n).1, (kof_s x.w x.n).2⟩ : Gu)
set_option maxRecDepth 100000 in
theorem mcon_ok (l : List Nd) (out : List Gu) (x : Nd)  : Ok Tryd.prog 18 [.ptr 820 0, .agg (cat [.v (.int .i64 x.op), .v (.int .i64 x.w), .v (.int .u64 x.n)] (cat (arrA aI 3 x.k) []))] (look [(820, .cells [.ro 6 l.length ((l).map eNd), .own 821] 54), (821, .row 4 45 out.length ((out).map eGu))]) (.agg [.v (.int .u64 ((mcon_s l out x).lo)), .v (.int .u64 ((mcon_s l out x).hi)), .v (.int .u64 ((mcon_s l out x).z)), .v (.int .u64 ((mcon_s l out x).e))]) (postOf [(820, .cells [.ro 6 l.length ((l).map eNd), .own 821] 54), (821, .row 4 45 out.length ((out).map eGu))] []) := by
  unfold mcon_s
  exact ok_run Tryd.func18 rfl rfl mixed 400 [(0, .nm 901), (1, .nm 902), (1009, .call [] [] (.agg [.v (.int .u64 ((kof_s x.w x.n).1)), .v (.int .u64 ((kof_s x.w x.n).2))]))] (all1 (kof_ok x.w x.n )) (by kernel_rfl)

def mope_s (l : List Nd) (out : List Gu) (x : Nd) : Gu := (gwho_s x.w)
set_option maxRecDepth 100000 in
theorem mope_ok (l : List Nd) (out : List Gu) (x : Nd)  : Ok Tryd.prog 19 [.ptr 820 0, .agg (cat [.v (.int .i64 x.op), .v (.int .i64 x.w), .v (.int .u64 x.n)] (cat (arrA aI 3 x.k) []))] (look [(820, .cells [.ro 6 l.length ((l).map eNd), .own 821] 54), (821, .row 4 45 out.length ((out).map eGu))]) (.agg [.v (.int .u64 ((mope_s l out x).lo)), .v (.int .u64 ((mope_s l out x).hi)), .v (.int .u64 ((mope_s l out x).z)), .v (.int .u64 ((mope_s l out x).e))]) (postOf [(820, .cells [.ro 6 l.length ((l).map eNd), .own 821] 54), (821, .row 4 45 out.length ((out).map eGu))] []) := by
  unfold mope_s
  exact ok_run Tryd.func19 rfl rfl mixed 400 [(0, .nm 901), (1, .nm 902), (1002, .call [] [] (.agg [.v (.int .u64 ((gwho_s x.w).lo)), .v (.int .u64 ((gwho_s x.w).hi)), .v (.int .u64 ((gwho_s x.w).z)), .v (.int .u64 ((gwho_s x.w).e))]))] (all1 (gwho_ok x.w )) (by kernel_rfl)

def mwid_s (l : List Nd) (out : List Gu) (x : Nd) : Gu := (⟨(kid0_s l out x).1.lo, (kid0_s l out x).1.hi, Go.bits .or .u64 ((kid0_s l out x).1.z) (Go.bits .xor .u64 IntKind.u64.max (mask_s ((kid0_s l out x).2))), (kid0_s l out x).1.e⟩ : Gu)
set_option maxRecDepth 100000 in
theorem mwid_ok (l : List Nd) (out : List Gu) (x : Nd) (q : ∀ m, m < 3 → 0 ≤ x.k m ∧ x.k m < out.length) (h2 : out.length ≤ l.length) : Ok Tryd.prog 21 [.ptr 820 0, .agg (cat [.v (.int .i64 x.op), .v (.int .i64 x.w), .v (.int .u64 x.n)] (cat (arrA aI 3 x.k) []))] (look [(820, .cells [.ro 6 l.length ((l).map eNd), .own 821] 54), (821, .row 4 45 out.length ((out).map eGu))]) (.agg [.v (.int .u64 ((mwid_s l out x).lo)), .v (.int .u64 ((mwid_s l out x).hi)), .v (.int .u64 ((mwid_s l out x).z)), .v (.int .u64 ((mwid_s l out x).e))]) (postOf [(820, .cells [.ro 6 l.length ((l).map eNd), .own 821] 54), (821, .row 4 45 out.length ((out).map eGu))] []) := by
  unfold mwid_s
  exact ok_run Tryd.func21 rfl rfl mixed 400 [(0, .nm 901), (1, .nm 902), (1002, .call [820, 821] [] (.tup [.agg [.v (.int .u64 ((kid0_s l out x).1.lo)), .v (.int .u64 ((kid0_s l out x).1.hi)), .v (.int .u64 ((kid0_s l out x).1.z)), .v (.int .u64 ((kid0_s l out x).1.e))], .v (.int .i64 ((kid0_s l out x).2))])), (1006, .nm 903), (2004, .call [] [] (.v (.int .u64 (mask_s ((kid0_s l out x).2)))))] (all2 (kid0_ok l out x q h2) (mask_ok ((kid0_s l out x).2) )) (by kernel_rfl)

def mlow_s (l : List Nd) (out : List Gu) (x : Nd) : Gu := (bif decide (((kid0_s l out x).1.hi) > (255 : Int)) then (⟨0, 255, (kid0_s l out x).1.z, (kid0_s l out x).1.e⟩ : Gu) else ((kid0_s l out x).1))
set_option maxRecDepth 100000 in
theorem mlow_ok (l : List Nd) (out : List Gu) (x : Nd) (q : ∀ m, m < 3 → 0 ≤ x.k m ∧ x.k m < out.length) (h2 : out.length ≤ l.length) : Ok Tryd.prog 22 [.ptr 820 0, .agg (cat [.v (.int .i64 x.op), .v (.int .i64 x.w), .v (.int .u64 x.n)] (cat (arrA aI 3 x.k) []))] (look [(820, .cells [.ro 6 l.length ((l).map eNd), .own 821] 54), (821, .row 4 45 out.length ((out).map eGu))]) (.agg [.v (.int .u64 ((mlow_s l out x).lo)), .v (.int .u64 ((mlow_s l out x).hi)), .v (.int .u64 ((mlow_s l out x).z)), .v (.int .u64 ((mlow_s l out x).e))]) (postOf [(820, .cells [.ro 6 l.length ((l).map eNd), .own 821] 54), (821, .row 4 45 out.length ((out).map eGu))] []) := by
  unfold mlow_s
  cases h2003 : (decide (((kid0_s l out x).1.hi) > (255 : Int)))
  · have p2003 := of_decide_eq_false h2003
    exact ok_run Tryd.func22 rfl rfl mixed 400 [(0, .nm 901), (1, .nm 902), (1002, .call [820, 821] [] (.tup [.agg [.v (.int .u64 ((kid0_s l out x).1.lo)), .v (.int .u64 ((kid0_s l out x).1.hi)), .v (.int .u64 ((kid0_s l out x).1.z)), .v (.int .u64 ((kid0_s l out x).1.e))], .v (.int .i64 ((kid0_s l out x).2))])), (1006, .nm 903), (2003, .b false)] (all2 (kid0_ok l out x q h2) h2003) (by kernel_rfl)
  · have p2003 := of_decide_eq_true h2003
    exact ok_run Tryd.func22 rfl rfl mixed 400 [(0, .nm 901), (1, .nm 902), (1002, .call [820, 821] [] (.tup [.agg [.v (.int .u64 ((kid0_s l out x).1.lo)), .v (.int .u64 ((kid0_s l out x).1.hi)), .v (.int .u64 ((kid0_s l out x).1.z)), .v (.int .u64 ((kid0_s l out x).1.e))], .v (.int .i64 ((kid0_s l out x).2))])), (1006, .nm 903), (2003, .b true)] (all2 (kid0_ok l out x q h2) h2003) (by kernel_rfl)

def mjoi_s (x : Nd) (a b : Gu) : Gu := (⟨(sjoi_s x.w a.lo a.hi b.lo b.hi).1, (sjoi_s x.w a.lo a.hi b.lo b.hi).2, (kjoi_s x.w a.z a.e b.z b.e).1, (kjoi_s x.w a.z a.e b.z b.e).2⟩ : Gu)
set_option maxRecDepth 100000 in
theorem mjoi_ok (x : Nd) (a b : Gu)  : Ok Tryd.prog 43 [.ptr 822 0, .ptr 823 0, .ptr 824 0] (look [(822, .cells (cat [.v (.int .i64 x.op), .v (.int .i64 x.w), .v (.int .u64 x.n)] (cat (arrA aI 3 x.k) [])) 39), (823, .cells [.v (.int .u64 a.lo), .v (.int .u64 a.hi), .v (.int .u64 a.z), .v (.int .u64 a.e)] 45), (824, .cells [.v (.int .u64 b.lo), .v (.int .u64 b.hi), .v (.int .u64 b.z), .v (.int .u64 b.e)] 45)]) (.agg [.v (.int .u64 ((mjoi_s x a b).lo)), .v (.int .u64 ((mjoi_s x a b).hi)), .v (.int .u64 ((mjoi_s x a b).z)), .v (.int .u64 ((mjoi_s x a b).e))]) (postOf [(822, .cells (cat [.v (.int .i64 x.op), .v (.int .i64 x.w), .v (.int .u64 x.n)] (cat (arrA aI 3 x.k) [])) 39), (823, .cells [.v (.int .u64 a.lo), .v (.int .u64 a.hi), .v (.int .u64 a.z), .v (.int .u64 a.e)] 45), (824, .cells [.v (.int .u64 b.lo), .v (.int .u64 b.hi), .v (.int .u64 b.z), .v (.int .u64 b.e)] 45)] []) := by
  unfold mjoi_s
  exact ok_run Tryd.func43 rfl rfl mixed 400 [(0, .nm 901), (1006, .call [] [] (.agg [.v (.int .u64 ((sjoi_s x.w a.lo a.hi b.lo b.hi).1)), .v (.int .u64 ((sjoi_s x.w a.lo a.hi b.lo b.hi).2))])), (1013, .call [] [] (.agg [.v (.int .u64 ((kjoi_s x.w a.z a.e b.z b.e).1)), .v (.int .u64 ((kjoi_s x.w a.z a.e b.z b.e).2))]))] (all2 (sjoi_ok x.w a.lo a.hi b.lo b.hi ) (kjoi_ok x.w a.z a.e b.z b.e )) (by kernel_rfl)

def mcho_s (l : List Nd) (out : List Gu) (x : Nd) : Gu := (bif ((kid0_s l out x).1.lo) == (1 : Int) then ((kid1_s l out x).1) else (bif ((kid0_s l out x).1.hi) == (0 : Int) then ((kid2_s l out x).1) else (mjoi_s x ((kid1_s l out x).1) ((kid2_s l out x).1))))
set_option maxRecDepth 100000 in
theorem mcho_ok (l : List Nd) (out : List Gu) (x : Nd) (q : ∀ m, m < 3 → 0 ≤ x.k m ∧ x.k m < out.length) (h2 : out.length ≤ l.length) : Ok Tryd.prog 23 [.ptr 820 0, .agg (cat [.v (.int .i64 x.op), .v (.int .i64 x.w), .v (.int .u64 x.n)] (cat (arrA aI 3 x.k) []))] (look [(820, .cells [.ro 6 l.length ((l).map eNd), .own 821] 54), (821, .row 4 45 out.length ((out).map eGu))]) (.agg [.v (.int .u64 ((mcho_s l out x).lo)), .v (.int .u64 ((mcho_s l out x).hi)), .v (.int .u64 ((mcho_s l out x).z)), .v (.int .u64 ((mcho_s l out x).e))]) (postOf [(820, .cells [.ro 6 l.length ((l).map eNd), .own 821] 54), (821, .row 4 45 out.length ((out).map eGu))] []) := by
  unfold mcho_s
  cases h5003 : (((kid0_s l out x).1.lo) == (1 : Int))
  · have p5003 := ne_of_beq_false h5003
    cases h7003 : (((kid0_s l out x).1.hi) == (0 : Int))
    · have p7003 := ne_of_beq_false h7003
      exact ok_run Tryd.func23 rfl rfl mixed 400 [(0, .nm 822), (1, .nm 901), (1002, .call [820, 821] [] (.tup [.agg [.v (.int .u64 ((kid0_s l out x).1.lo)), .v (.int .u64 ((kid0_s l out x).1.hi)), .v (.int .u64 ((kid0_s l out x).1.z)), .v (.int .u64 ((kid0_s l out x).1.e))], .v (.int .i64 ((kid0_s l out x).2))])), (1006, .nm 902), (2002, .call [820, 821] [] (.tup [.agg [.v (.int .u64 ((kid1_s l out x).1.lo)), .v (.int .u64 ((kid1_s l out x).1.hi)), .v (.int .u64 ((kid1_s l out x).1.z)), .v (.int .u64 ((kid1_s l out x).1.e))], .v (.int .i64 ((kid1_s l out x).2))])), (2006, .nm 823), (3002, .call [820, 821] [] (.tup [.agg [.v (.int .u64 ((kid2_s l out x).1.lo)), .v (.int .u64 ((kid2_s l out x).1.hi)), .v (.int .u64 ((kid2_s l out x).1.z)), .v (.int .u64 ((kid2_s l out x).1.e))], .v (.int .i64 ((kid2_s l out x).2))])), (3006, .nm 824), (5003, .b false), (7003, .b false), (9001, .call [822, 823, 824] [] (.agg [.v (.int .u64 ((mjoi_s x ((kid1_s l out x).1) ((kid2_s l out x).1)).lo)), .v (.int .u64 ((mjoi_s x ((kid1_s l out x).1) ((kid2_s l out x).1)).hi)), .v (.int .u64 ((mjoi_s x ((kid1_s l out x).1) ((kid2_s l out x).1)).z)), .v (.int .u64 ((mjoi_s x ((kid1_s l out x).1) ((kid2_s l out x).1)).e))]))] (all6 (kid0_ok l out x q h2) (kid1_ok l out x q h2) (kid2_ok l out x q h2) h5003 h7003 (mjoi_ok x ((kid1_s l out x).1) ((kid2_s l out x).1))) (by kernel_rfl)
    · have p7003 := eq_of_beq h7003
      exact ok_run Tryd.func23 rfl rfl mixed 400 [(0, .nm 822), (1, .nm 901), (1002, .call [820, 821] [] (.tup [.agg [.v (.int .u64 ((kid0_s l out x).1.lo)), .v (.int .u64 ((kid0_s l out x).1.hi)), .v (.int .u64 ((kid0_s l out x).1.z)), .v (.int .u64 ((kid0_s l out x).1.e))], .v (.int .i64 ((kid0_s l out x).2))])), (1006, .nm 902), (2002, .call [820, 821] [] (.tup [.agg [.v (.int .u64 ((kid1_s l out x).1.lo)), .v (.int .u64 ((kid1_s l out x).1.hi)), .v (.int .u64 ((kid1_s l out x).1.z)), .v (.int .u64 ((kid1_s l out x).1.e))], .v (.int .i64 ((kid1_s l out x).2))])), (2006, .nm 823), (3002, .call [820, 821] [] (.tup [.agg [.v (.int .u64 ((kid2_s l out x).1.lo)), .v (.int .u64 ((kid2_s l out x).1.hi)), .v (.int .u64 ((kid2_s l out x).1.z)), .v (.int .u64 ((kid2_s l out x).1.e))], .v (.int .i64 ((kid2_s l out x).2))])), (3006, .nm 824), (5003, .b false), (7003, .b true)] (all5 (kid0_ok l out x q h2) (kid1_ok l out x q h2) (kid2_ok l out x q h2) h5003 h7003) (by kernel_rfl)
  · have p5003 := eq_of_beq h5003
    exact ok_run Tryd.func23 rfl rfl mixed 400 [(0, .nm 822), (1, .nm 901), (1002, .call [820, 821] [] (.tup [.agg [.v (.int .u64 ((kid0_s l out x).1.lo)), .v (.int .u64 ((kid0_s l out x).1.hi)), .v (.int .u64 ((kid0_s l out x).1.z)), .v (.int .u64 ((kid0_s l out x).1.e))], .v (.int .i64 ((kid0_s l out x).2))])), (1006, .nm 902), (2002, .call [820, 821] [] (.tup [.agg [.v (.int .u64 ((kid1_s l out x).1.lo)), .v (.int .u64 ((kid1_s l out x).1.hi)), .v (.int .u64 ((kid1_s l out x).1.z)), .v (.int .u64 ((kid1_s l out x).1.e))], .v (.int .i64 ((kid1_s l out x).2))])), (2006, .nm 823), (3002, .call [820, 821] [] (.tup [.agg [.v (.int .u64 ((kid2_s l out x).1.lo)), .v (.int .u64 ((kid2_s l out x).1.hi)), .v (.int .u64 ((kid2_s l out x).1.z)), .v (.int .u64 ((kid2_s l out x).1.e))], .v (.int .i64 ((kid2_s l out x).2))])), (3006, .nm 824), (5003, .b true)] (all4 (kid0_ok l out x q h2) (kid1_ok l out x q h2) (kid2_ok l out x q h2) h5003) (by kernel_rfl)

def mapp_s (l : List Nd) (out : List Gu) (x : Nd) : Gu := (⟨(sapp_s x.op ((kid0_s l out x).2) ((kid0_s l out x).1.lo) ((kid0_s l out x).1.hi) ((kid1_s l out x).1.lo) ((kid1_s l out x).1.hi)).1, (sapp_s x.op ((kid0_s l out x).2) ((kid0_s l out x).1.lo) ((kid0_s l out x).1.hi) ((kid1_s l out x).1.lo) ((kid1_s l out x).1.hi)).2, (kapp_s x.op ((kid0_s l out x).2) ((kid0_s l out x).1.z) ((kid0_s l out x).1.e) ((kid1_s l out x).1.z) ((kid1_s l out x).1.e)).1, (kapp_s x.op ((kid0_s l out x).2) ((kid0_s l out x).1.z) ((kid0_s l out x).1.e) ((kid1_s l out x).1.z) ((kid1_s l out x).1.e)).2⟩ : Gu)
set_option maxRecDepth 100000 in
theorem mapp_ok (l : List Nd) (out : List Gu) (x : Nd) (q : ∀ m, m < 3 → 0 ≤ x.k m ∧ x.k m < out.length) (h2 : out.length ≤ l.length) (hg : ∀ j, GuR (out.getD j default)) : Ok Tryd.prog 20 [.ptr 820 0, .agg (cat [.v (.int .i64 x.op), .v (.int .i64 x.w), .v (.int .u64 x.n)] (cat (arrA aI 3 x.k) []))] (look [(820, .cells [.ro 6 l.length ((l).map eNd), .own 821] 54), (821, .row 4 45 out.length ((out).map eGu))]) (.agg [.v (.int .u64 ((mapp_s l out x).lo)), .v (.int .u64 ((mapp_s l out x).hi)), .v (.int .u64 ((mapp_s l out x).z)), .v (.int .u64 ((mapp_s l out x).e))]) (postOf [(820, .cells [.ro 6 l.length ((l).map eNd), .own 821] 54), (821, .row 4 45 out.length ((out).map eGu))] []) := by
  unfold mapp_s
  obtain ⟨ga1, ga2, ga3, ga4⟩ : GuR (kid0_s l out x).1 := hg _; obtain ⟨gb1, gb2, gb3, gb4⟩ : GuR (kid1_s l out x).1 := hg _
  exact ok_run Tryd.func20 rfl rfl mixed 400 [(0, .nm 901), (1, .nm 902), (1002, .call [820, 821] [] (.tup [.agg [.v (.int .u64 ((kid0_s l out x).1.lo)), .v (.int .u64 ((kid0_s l out x).1.hi)), .v (.int .u64 ((kid0_s l out x).1.z)), .v (.int .u64 ((kid0_s l out x).1.e))], .v (.int .i64 ((kid0_s l out x).2))])), (1006, .nm 903), (2002, .call [820, 821] [] (.tup [.agg [.v (.int .u64 ((kid1_s l out x).1.lo)), .v (.int .u64 ((kid1_s l out x).1.hi)), .v (.int .u64 ((kid1_s l out x).1.z)), .v (.int .u64 ((kid1_s l out x).1.e))], .v (.int .i64 ((kid1_s l out x).2))])), (2006, .nm 904), (3007, .call [] [] (.agg [.v (.int .u64 ((sapp_s x.op ((kid0_s l out x).2) ((kid0_s l out x).1.lo) ((kid0_s l out x).1.hi) ((kid1_s l out x).1.lo) ((kid1_s l out x).1.hi)).1)), .v (.int .u64 ((sapp_s x.op ((kid0_s l out x).2) ((kid0_s l out x).1.lo) ((kid0_s l out x).1.hi) ((kid1_s l out x).1.lo) ((kid1_s l out x).1.hi)).2))])), (3015, .call [] [] (.agg [.v (.int .u64 ((kapp_s x.op ((kid0_s l out x).2) ((kid0_s l out x).1.z) ((kid0_s l out x).1.e) ((kid1_s l out x).1.z) ((kid1_s l out x).1.e)).1)), .v (.int .u64 ((kapp_s x.op ((kid0_s l out x).2) ((kid0_s l out x).1.z) ((kid0_s l out x).1.e) ((kid1_s l out x).1.z) ((kid1_s l out x).1.e)).2))]))] (all4 (kid0_ok l out x q h2) (kid1_ok l out x q h2) (sapp_ok x.op ((kid0_s l out x).2) ((kid0_s l out x).1.lo) ((kid0_s l out x).1.hi) ((kid1_s l out x).1.lo) ((kid1_s l out x).1.hi) (by omega) (by omega) (by omega) (by omega)) (kapp_ok x.op ((kid0_s l out x).2) ((kid0_s l out x).1.z) ((kid0_s l out x).1.e) ((kid1_s l out x).1.z) ((kid1_s l out x).1.e) )) (by kernel_rfl)

def ways_L : List AV := [fv 18, fv 19, fv 19, .v .nilFunc, .v .nilFunc, fv 20, fv 21, fv 22, fv 20, fv 20, fv 20, fv 20, fv 20, fv 20, fv 20, fv 20, fv 20, fv 20, fv 20, fv 20, fv 20, fv 20, fv 23, fv 19, .v .nilFunc]
set_option maxRecDepth 100000 in
theorem ways_ok : Ok Tryd.prog 13 [] (look []) (.agg ways_L) (postOf [] []) := by
  refine ok_head (T := [(0, .ptr 101 0), (1, .ptr 102 0), (2, .v (.int .i64 8))]) (H := [(101, .cells [.v .nilFunc, .v .nilFunc, .v .nilFunc, .v .nilFunc, .v .nilFunc, .v .nilFunc, .v .nilFunc, .v .nilFunc, .v .nilFunc, .v .nilFunc, .v .nilFunc, .v .nilFunc, .v .nilFunc, .v .nilFunc, .v .nilFunc, .v .nilFunc, .v .nilFunc, .v .nilFunc, .v .nilFunc, .v .nilFunc, .v .nilFunc, .v .nilFunc, .v .nilFunc, .v .nilFunc, .v .nilFunc] 56), (102, .cells [fv 18, fv 19, fv 19, .v .nilFunc, .v .nilFunc, fv 20, fv 21, fv 22, .v .nilFunc, .v .nilFunc, .v .nilFunc, .v .nilFunc, .v .nilFunc, .v .nilFunc, .v .nilFunc, .v .nilFunc, .v .nilFunc, .v .nilFunc, .v .nilFunc, .v .nilFunc, .v .nilFunc, .v .nilFunc, fv 23, fv 19, .v .nilFunc] 56)]) (todo := headAt Tryd.f13 0) Tryd.func13 rfl rfl mixed 400 [(0, .nm 101), (1001, .nm 102)] (all0) (by kernel_rfl) ?_
  refine good_head (T := [(0, .ptr 101 0), (1, .ptr 102 0), (2, .v (.int .i64 9)), (4, .v (.int .i64 8)), (5, .v (.bool true)), (6, .v (.int .i64 8)), (7, .v (.int .i64 9)), (8, .v (.int .i64 8)), (9, .ptr 102 8)]) (H := [(101, .cells [.v .nilFunc, .v .nilFunc, .v .nilFunc, .v .nilFunc, .v .nilFunc, .v .nilFunc, .v .nilFunc, .v .nilFunc, .v .nilFunc, .v .nilFunc, .v .nilFunc, .v .nilFunc, .v .nilFunc, .v .nilFunc, .v .nilFunc, .v .nilFunc, .v .nilFunc, .v .nilFunc, .v .nilFunc, .v .nilFunc, .v .nilFunc, .v .nilFunc, .v .nilFunc, .v .nilFunc, .v .nilFunc] 56), (102, .cells [fv 18, fv 19, fv 19, .v .nilFunc, .v .nilFunc, fv 20, fv 21, fv 22, fv 20, .v .nilFunc, .v .nilFunc, .v .nilFunc, .v .nilFunc, .v .nilFunc, .v .nilFunc, .v .nilFunc, .v .nilFunc, .v .nilFunc, .v .nilFunc, .v .nilFunc, .v .nilFunc, .v .nilFunc, fv 23, fv 19, .v .nilFunc] 56)]) (todo' := headAt Tryd.f13 0) Tryd.func13 mixed 400 [] (all0) (by kernel_rfl) ?_
  refine good_head (T := [(0, .ptr 101 0), (1, .ptr 102 0), (2, .v (.int .i64 10)), (4, .v (.int .i64 9)), (5, .v (.bool true)), (6, .v (.int .i64 9)), (7, .v (.int .i64 10)), (8, .v (.int .i64 9)), (9, .ptr 102 9)]) (H := [(101, .cells [.v .nilFunc, .v .nilFunc, .v .nilFunc, .v .nilFunc, .v .nilFunc, .v .nilFunc, .v .nilFunc, .v .nilFunc, .v .nilFunc, .v .nilFunc, .v .nilFunc, .v .nilFunc, .v .nilFunc, .v .nilFunc, .v .nilFunc, .v .nilFunc, .v .nilFunc, .v .nilFunc, .v .nilFunc, .v .nilFunc, .v .nilFunc, .v .nilFunc, .v .nilFunc, .v .nilFunc, .v .nilFunc] 56), (102, .cells [fv 18, fv 19, fv 19, .v .nilFunc, .v .nilFunc, fv 20, fv 21, fv 22, fv 20, fv 20, .v .nilFunc, .v .nilFunc, .v .nilFunc, .v .nilFunc, .v .nilFunc, .v .nilFunc, .v .nilFunc, .v .nilFunc, .v .nilFunc, .v .nilFunc, .v .nilFunc, .v .nilFunc, fv 23, fv 19, .v .nilFunc] 56)]) (todo' := headAt Tryd.f13 0) Tryd.func13 mixed 400 [] (all0) (by kernel_rfl) ?_
  refine good_head (T := [(0, .ptr 101 0), (1, .ptr 102 0), (2, .v (.int .i64 11)), (4, .v (.int .i64 10)), (5, .v (.bool true)), (6, .v (.int .i64 10)), (7, .v (.int .i64 11)), (8, .v (.int .i64 10)), (9, .ptr 102 10)]) (H := [(101, .cells [.v .nilFunc, .v .nilFunc, .v .nilFunc, .v .nilFunc, .v .nilFunc, .v .nilFunc, .v .nilFunc, .v .nilFunc, .v .nilFunc, .v .nilFunc, .v .nilFunc, .v .nilFunc, .v .nilFunc, .v .nilFunc, .v .nilFunc, .v .nilFunc, .v .nilFunc, .v .nilFunc, .v .nilFunc, .v .nilFunc, .v .nilFunc, .v .nilFunc, .v .nilFunc, .v .nilFunc, .v .nilFunc] 56), (102, .cells [fv 18, fv 19, fv 19, .v .nilFunc, .v .nilFunc, fv 20, fv 21, fv 22, fv 20, fv 20, fv 20, .v .nilFunc, .v .nilFunc, .v .nilFunc, .v .nilFunc, .v .nilFunc, .v .nilFunc, .v .nilFunc, .v .nilFunc, .v .nilFunc, .v .nilFunc, .v .nilFunc, fv 23, fv 19, .v .nilFunc] 56)]) (todo' := headAt Tryd.f13 0) Tryd.func13 mixed 400 [] (all0) (by kernel_rfl) ?_
  refine good_head (T := [(0, .ptr 101 0), (1, .ptr 102 0), (2, .v (.int .i64 12)), (4, .v (.int .i64 11)), (5, .v (.bool true)), (6, .v (.int .i64 11)), (7, .v (.int .i64 12)), (8, .v (.int .i64 11)), (9, .ptr 102 11)]) (H := [(101, .cells [.v .nilFunc, .v .nilFunc, .v .nilFunc, .v .nilFunc, .v .nilFunc, .v .nilFunc, .v .nilFunc, .v .nilFunc, .v .nilFunc, .v .nilFunc, .v .nilFunc, .v .nilFunc, .v .nilFunc, .v .nilFunc, .v .nilFunc, .v .nilFunc, .v .nilFunc, .v .nilFunc, .v .nilFunc, .v .nilFunc, .v .nilFunc, .v .nilFunc, .v .nilFunc, .v .nilFunc, .v .nilFunc] 56), (102, .cells [fv 18, fv 19, fv 19, .v .nilFunc, .v .nilFunc, fv 20, fv 21, fv 22, fv 20, fv 20, fv 20, fv 20, .v .nilFunc, .v .nilFunc, .v .nilFunc, .v .nilFunc, .v .nilFunc, .v .nilFunc, .v .nilFunc, .v .nilFunc, .v .nilFunc, .v .nilFunc, fv 23, fv 19, .v .nilFunc] 56)]) (todo' := headAt Tryd.f13 0) Tryd.func13 mixed 400 [] (all0) (by kernel_rfl) ?_
  refine good_head (T := [(0, .ptr 101 0), (1, .ptr 102 0), (2, .v (.int .i64 13)), (4, .v (.int .i64 12)), (5, .v (.bool true)), (6, .v (.int .i64 12)), (7, .v (.int .i64 13)), (8, .v (.int .i64 12)), (9, .ptr 102 12)]) (H := [(101, .cells [.v .nilFunc, .v .nilFunc, .v .nilFunc, .v .nilFunc, .v .nilFunc, .v .nilFunc, .v .nilFunc, .v .nilFunc, .v .nilFunc, .v .nilFunc, .v .nilFunc, .v .nilFunc, .v .nilFunc, .v .nilFunc, .v .nilFunc, .v .nilFunc, .v .nilFunc, .v .nilFunc, .v .nilFunc, .v .nilFunc, .v .nilFunc, .v .nilFunc, .v .nilFunc, .v .nilFunc, .v .nilFunc] 56), (102, .cells [fv 18, fv 19, fv 19, .v .nilFunc, .v .nilFunc, fv 20, fv 21, fv 22, fv 20, fv 20, fv 20, fv 20, fv 20, .v .nilFunc, .v .nilFunc, .v .nilFunc, .v .nilFunc, .v .nilFunc, .v .nilFunc, .v .nilFunc, .v .nilFunc, .v .nilFunc, fv 23, fv 19, .v .nilFunc] 56)]) (todo' := headAt Tryd.f13 0) Tryd.func13 mixed 400 [] (all0) (by kernel_rfl) ?_
  refine good_head (T := [(0, .ptr 101 0), (1, .ptr 102 0), (2, .v (.int .i64 14)), (4, .v (.int .i64 13)), (5, .v (.bool true)), (6, .v (.int .i64 13)), (7, .v (.int .i64 14)), (8, .v (.int .i64 13)), (9, .ptr 102 13)]) (H := [(101, .cells [.v .nilFunc, .v .nilFunc, .v .nilFunc, .v .nilFunc, .v .nilFunc, .v .nilFunc, .v .nilFunc, .v .nilFunc, .v .nilFunc, .v .nilFunc, .v .nilFunc, .v .nilFunc, .v .nilFunc, .v .nilFunc, .v .nilFunc, .v .nilFunc, .v .nilFunc, .v .nilFunc, .v .nilFunc, .v .nilFunc, .v .nilFunc, .v .nilFunc, .v .nilFunc, .v .nilFunc, .v .nilFunc] 56), (102, .cells [fv 18, fv 19, fv 19, .v .nilFunc, .v .nilFunc, fv 20, fv 21, fv 22, fv 20, fv 20, fv 20, fv 20, fv 20, fv 20, .v .nilFunc, .v .nilFunc, .v .nilFunc, .v .nilFunc, .v .nilFunc, .v .nilFunc, .v .nilFunc, .v .nilFunc, fv 23, fv 19, .v .nilFunc] 56)]) (todo' := headAt Tryd.f13 0) Tryd.func13 mixed 400 [] (all0) (by kernel_rfl) ?_
  refine good_head (T := [(0, .ptr 101 0), (1, .ptr 102 0), (2, .v (.int .i64 15)), (4, .v (.int .i64 14)), (5, .v (.bool true)), (6, .v (.int .i64 14)), (7, .v (.int .i64 15)), (8, .v (.int .i64 14)), (9, .ptr 102 14)]) (H := [(101, .cells [.v .nilFunc, .v .nilFunc, .v .nilFunc, .v .nilFunc, .v .nilFunc, .v .nilFunc, .v .nilFunc, .v .nilFunc, .v .nilFunc, .v .nilFunc, .v .nilFunc, .v .nilFunc, .v .nilFunc, .v .nilFunc, .v .nilFunc, .v .nilFunc, .v .nilFunc, .v .nilFunc, .v .nilFunc, .v .nilFunc, .v .nilFunc, .v .nilFunc, .v .nilFunc, .v .nilFunc, .v .nilFunc] 56), (102, .cells [fv 18, fv 19, fv 19, .v .nilFunc, .v .nilFunc, fv 20, fv 21, fv 22, fv 20, fv 20, fv 20, fv 20, fv 20, fv 20, fv 20, .v .nilFunc, .v .nilFunc, .v .nilFunc, .v .nilFunc, .v .nilFunc, .v .nilFunc, .v .nilFunc, fv 23, fv 19, .v .nilFunc] 56)]) (todo' := headAt Tryd.f13 0) Tryd.func13 mixed 400 [] (all0) (by kernel_rfl) ?_
  refine good_head (T := [(0, .ptr 101 0), (1, .ptr 102 0), (2, .v (.int .i64 16)), (4, .v (.int .i64 15)), (5, .v (.bool true)), (6, .v (.int .i64 15)), (7, .v (.int .i64 16)), (8, .v (.int .i64 15)), (9, .ptr 102 15)]) (H := [(101, .cells [.v .nilFunc, .v .nilFunc, .v .nilFunc, .v .nilFunc, .v .nilFunc, .v .nilFunc, .v .nilFunc, .v .nilFunc, .v .nilFunc, .v .nilFunc, .v .nilFunc, .v .nilFunc, .v .nilFunc, .v .nilFunc, .v .nilFunc, .v .nilFunc, .v .nilFunc, .v .nilFunc, .v .nilFunc, .v .nilFunc, .v .nilFunc, .v .nilFunc, .v .nilFunc, .v .nilFunc, .v .nilFunc] 56), (102, .cells [fv 18, fv 19, fv 19, .v .nilFunc, .v .nilFunc, fv 20, fv 21, fv 22, fv 20, fv 20, fv 20, fv 20, fv 20, fv 20, fv 20, fv 20, .v .nilFunc, .v .nilFunc, .v .nilFunc, .v .nilFunc, .v .nilFunc, .v .nilFunc, fv 23, fv 19, .v .nilFunc] 56)]) (todo' := headAt Tryd.f13 0) Tryd.func13 mixed 400 [] (all0) (by kernel_rfl) ?_
  refine good_head (T := [(0, .ptr 101 0), (1, .ptr 102 0), (2, .v (.int .i64 17)), (4, .v (.int .i64 16)), (5, .v (.bool true)), (6, .v (.int .i64 16)), (7, .v (.int .i64 17)), (8, .v (.int .i64 16)), (9, .ptr 102 16)]) (H := [(101, .cells [.v .nilFunc, .v .nilFunc, .v .nilFunc, .v .nilFunc, .v .nilFunc, .v .nilFunc, .v .nilFunc, .v .nilFunc, .v .nilFunc, .v .nilFunc, .v .nilFunc, .v .nilFunc, .v .nilFunc, .v .nilFunc, .v .nilFunc, .v .nilFunc, .v .nilFunc, .v .nilFunc, .v .nilFunc, .v .nilFunc, .v .nilFunc, .v .nilFunc, .v .nilFunc, .v .nilFunc, .v .nilFunc] 56), (102, .cells [fv 18, fv 19, fv 19, .v .nilFunc, .v .nilFunc, fv 20, fv 21, fv 22, fv 20, fv 20, fv 20, fv 20, fv 20, fv 20, fv 20, fv 20, fv 20, .v .nilFunc, .v .nilFunc, .v .nilFunc, .v .nilFunc, .v .nilFunc, fv 23, fv 19, .v .nilFunc] 56)]) (todo' := headAt Tryd.f13 0) Tryd.func13 mixed 400 [] (all0) (by kernel_rfl) ?_
  refine good_head (T := [(0, .ptr 101 0), (1, .ptr 102 0), (2, .v (.int .i64 18)), (4, .v (.int .i64 17)), (5, .v (.bool true)), (6, .v (.int .i64 17)), (7, .v (.int .i64 18)), (8, .v (.int .i64 17)), (9, .ptr 102 17)]) (H := [(101, .cells [.v .nilFunc, .v .nilFunc, .v .nilFunc, .v .nilFunc, .v .nilFunc, .v .nilFunc, .v .nilFunc, .v .nilFunc, .v .nilFunc, .v .nilFunc, .v .nilFunc, .v .nilFunc, .v .nilFunc, .v .nilFunc, .v .nilFunc, .v .nilFunc, .v .nilFunc, .v .nilFunc, .v .nilFunc, .v .nilFunc, .v .nilFunc, .v .nilFunc, .v .nilFunc, .v .nilFunc, .v .nilFunc] 56), (102, .cells [fv 18, fv 19, fv 19, .v .nilFunc, .v .nilFunc, fv 20, fv 21, fv 22, fv 20, fv 20, fv 20, fv 20, fv 20, fv 20, fv 20, fv 20, fv 20, fv 20, .v .nilFunc, .v .nilFunc, .v .nilFunc, .v .nilFunc, fv 23, fv 19, .v .nilFunc] 56)]) (todo' := headAt Tryd.f13 0) Tryd.func13 mixed 400 [] (all0) (by kernel_rfl) ?_
  refine good_head (T := [(0, .ptr 101 0), (1, .ptr 102 0), (2, .v (.int .i64 19)), (4, .v (.int .i64 18)), (5, .v (.bool true)), (6, .v (.int .i64 18)), (7, .v (.int .i64 19)), (8, .v (.int .i64 18)), (9, .ptr 102 18)]) (H := [(101, .cells [.v .nilFunc, .v .nilFunc, .v .nilFunc, .v .nilFunc, .v .nilFunc, .v .nilFunc, .v .nilFunc, .v .nilFunc, .v .nilFunc, .v .nilFunc, .v .nilFunc, .v .nilFunc, .v .nilFunc, .v .nilFunc, .v .nilFunc, .v .nilFunc, .v .nilFunc, .v .nilFunc, .v .nilFunc, .v .nilFunc, .v .nilFunc, .v .nilFunc, .v .nilFunc, .v .nilFunc, .v .nilFunc] 56), (102, .cells [fv 18, fv 19, fv 19, .v .nilFunc, .v .nilFunc, fv 20, fv 21, fv 22, fv 20, fv 20, fv 20, fv 20, fv 20, fv 20, fv 20, fv 20, fv 20, fv 20, fv 20, .v .nilFunc, .v .nilFunc, .v .nilFunc, fv 23, fv 19, .v .nilFunc] 56)]) (todo' := headAt Tryd.f13 0) Tryd.func13 mixed 400 [] (all0) (by kernel_rfl) ?_
  refine good_head (T := [(0, .ptr 101 0), (1, .ptr 102 0), (2, .v (.int .i64 20)), (4, .v (.int .i64 19)), (5, .v (.bool true)), (6, .v (.int .i64 19)), (7, .v (.int .i64 20)), (8, .v (.int .i64 19)), (9, .ptr 102 19)]) (H := [(101, .cells [.v .nilFunc, .v .nilFunc, .v .nilFunc, .v .nilFunc, .v .nilFunc, .v .nilFunc, .v .nilFunc, .v .nilFunc, .v .nilFunc, .v .nilFunc, .v .nilFunc, .v .nilFunc, .v .nilFunc, .v .nilFunc, .v .nilFunc, .v .nilFunc, .v .nilFunc, .v .nilFunc, .v .nilFunc, .v .nilFunc, .v .nilFunc, .v .nilFunc, .v .nilFunc, .v .nilFunc, .v .nilFunc] 56), (102, .cells [fv 18, fv 19, fv 19, .v .nilFunc, .v .nilFunc, fv 20, fv 21, fv 22, fv 20, fv 20, fv 20, fv 20, fv 20, fv 20, fv 20, fv 20, fv 20, fv 20, fv 20, fv 20, .v .nilFunc, .v .nilFunc, fv 23, fv 19, .v .nilFunc] 56)]) (todo' := headAt Tryd.f13 0) Tryd.func13 mixed 400 [] (all0) (by kernel_rfl) ?_
  refine good_head (T := [(0, .ptr 101 0), (1, .ptr 102 0), (2, .v (.int .i64 21)), (4, .v (.int .i64 20)), (5, .v (.bool true)), (6, .v (.int .i64 20)), (7, .v (.int .i64 21)), (8, .v (.int .i64 20)), (9, .ptr 102 20)]) (H := [(101, .cells [.v .nilFunc, .v .nilFunc, .v .nilFunc, .v .nilFunc, .v .nilFunc, .v .nilFunc, .v .nilFunc, .v .nilFunc, .v .nilFunc, .v .nilFunc, .v .nilFunc, .v .nilFunc, .v .nilFunc, .v .nilFunc, .v .nilFunc, .v .nilFunc, .v .nilFunc, .v .nilFunc, .v .nilFunc, .v .nilFunc, .v .nilFunc, .v .nilFunc, .v .nilFunc, .v .nilFunc, .v .nilFunc] 56), (102, .cells [fv 18, fv 19, fv 19, .v .nilFunc, .v .nilFunc, fv 20, fv 21, fv 22, fv 20, fv 20, fv 20, fv 20, fv 20, fv 20, fv 20, fv 20, fv 20, fv 20, fv 20, fv 20, fv 20, .v .nilFunc, fv 23, fv 19, .v .nilFunc] 56)]) (todo' := headAt Tryd.f13 0) Tryd.func13 mixed 400 [] (all0) (by kernel_rfl) ?_
  refine good_head (T := [(0, .ptr 101 0), (1, .ptr 102 0), (2, .v (.int .i64 22)), (4, .v (.int .i64 21)), (5, .v (.bool true)), (6, .v (.int .i64 21)), (7, .v (.int .i64 22)), (8, .v (.int .i64 21)), (9, .ptr 102 21)]) (H := [(101, .cells [.v .nilFunc, .v .nilFunc, .v .nilFunc, .v .nilFunc, .v .nilFunc, .v .nilFunc, .v .nilFunc, .v .nilFunc, .v .nilFunc, .v .nilFunc, .v .nilFunc, .v .nilFunc, .v .nilFunc, .v .nilFunc, .v .nilFunc, .v .nilFunc, .v .nilFunc, .v .nilFunc, .v .nilFunc, .v .nilFunc, .v .nilFunc, .v .nilFunc, .v .nilFunc, .v .nilFunc, .v .nilFunc] 56), (102, .cells [fv 18, fv 19, fv 19, .v .nilFunc, .v .nilFunc, fv 20, fv 21, fv 22, fv 20, fv 20, fv 20, fv 20, fv 20, fv 20, fv 20, fv 20, fv 20, fv 20, fv 20, fv 20, fv 20, fv 20, fv 23, fv 19, .v .nilFunc] 56)]) (todo' := headAt Tryd.f13 0) Tryd.func13 mixed 400 [] (all0) (by kernel_rfl) ?_
  exact good_run Tryd.func13 mixed 400 [] (all0) (by kernel_rfl)
end Go.Proofs.YtahobmjchppciaaDoor.Sx.M5
/- A list is a term by the program just if it is one by the document, with the same fault at the same place. -/
open Go Go.Proofs Go.RowKit
namespace Go.Proofs.YtahobmjchppciaaDoor.Sx.M5
set_option linter.unusedVariables false
set_option linter.unusedSimpArgs false
theorem kids_same (op : Int) : rkds_s op = kids_s op := by
  unfold rkds_s kids_s
  simp only [Bool.cond_eq_ite, decide_eq_true_eq, beq_iff_eq]
  repeat' split
  all_goals first | rfl | omega
/-- What the document says behind the kids. -/
def tailR (x : Nd) (f : Nat → Int) : Int := bif (rwd_s x (f 0) (f 1) (f 2)) != x.w then (8 : Int) else (bif decide (x.w < (0 : Int)) then (8 : Int) else (bif decide (x.n > (rmos_s x)) then (3 : Int) else (0 : Int)))
theorem rrig_l0_eq {x : Nd} {l : List Nd} (hw : ∀ j, j < l.length → 0 ≤ (l.getD j default).w) : ∀ (m : Nat) (f : Nat → Int) (i : Int), 0 ≤ i → (3 - i).toNat < m → (∀ j, 0 ≤ f j) → ∃ f', (∀ j, 0 ≤ f' j) ∧ (tkid_l0 x l m f i).1 = f' ∧ rrig_l0 x l m f i = bif !(tkid_l0 x l m f i).2 then 9 else tailR x f' := by
  intro m
  induction m with
  | zero => intro f i _ h; omega
  | succ m ih =>
    intro f i h0 hm hf
    rw [rrig_l0, tkid_l0, kids_same]
    cases c : decide (i < (3 : Int)) with
    | false => exact ⟨f, hf, rfl, rfl⟩
    | true =>
      have c := of_decide_eq_true c
      cases c1 : decide (i ≥ kids_s x.op) with
      | true =>
        cases c2 : (x.k i.toNat != (0 : Int)) with
        | true => exact ⟨f, hf, rfl, rfl⟩
        | false => exact ih f (i + 1) (by omega) (by omega) hf
      | false =>
        cases c2 : decide (x.k i.toNat < (0 : Int)) with
        | true => exact ⟨f, hf, rfl, rfl⟩
        | false =>
          cases c3 : decide (x.k i.toNat ≥ (l.length : Int)) with
          | true => exact ⟨f, hf, rfl, rfl⟩
          | false =>
            have c2 := of_decide_eq_false c2
            have c3 := of_decide_eq_false c3
            refine ih _ (i + 1) (by omega) (by omega) fun j => ?_
            unfold upd
            split
            · exact hw _ (by omega)
            · exact hf j
theorem wide_iff (x : Nd) (f : Nat → Int) (ho : 0 ≤ x.op ∧ x.op ≤ 24) (hf : ∀ j, 0 ≤ f j) : twid_s x f = (!(rwd_s x (f 0) (f 1) (f 2) != x.w) && !decide (x.w < 0)) := by
  obtain ⟨op, w, n, k⟩ := x
  have h0 := hf 0
  have h1 := hf 1
  have h2 := hf 2
  rw [Bool.eq_iff_iff]
  unfold twid_s rwd_s leaf_s
  rw [show kids_s op = kids_s op from rfl]
  generalize f 0 = a at *
  generalize f 1 = b at *
  generalize f 2 = c at *
  have ho : 0 ≤ op ∧ op ≤ 24 := ho
  have : op = 0 ∨ op = 1 ∨ op = 2 ∨ op = 3 ∨ op = 4 ∨ op = 5 ∨ op = 6 ∨ op = 7 ∨ op = 19 ∨ op = 20 ∨ op = 21 ∨ op = 22 ∨ op = 23 ∨ op = 24 ∨ (8 ≤ op ∧ op ≤ 18) := by omega
  have fin : ∀ (p q : Bool), ((p && q) = true) ↔ (p = true ∧ q = true) := fun p q => by cases p <;> cases q <;> simp
  rcases this with e | e | e | e | e | e | e | e | e | e | e | e | e | e | e
  case inr.inr.inr.inr.inr.inr.inr.inr.inr.inr.inr.inr.inr.inr =>
    have hk : kids_s op = 2 := by
      unfold kids_s
      rw [decide_eq_false (by omega : ¬ op < 5), decide_eq_false (by omega : ¬ op > 24), decide_eq_false (by omega : ¬ op ≤ 7), decide_eq_true (by omega : op ≤ 21)]; rfl
    simp only [hk]
    have ne : ∀ v : Int, (v < 8 ∨ 18 < v) → (op == v) = false := fun v hv => by simp; omega
    rw [ne 5 (by omega), ne 6 (by omega), ne 7 (by omega), ne 19 (by omega), ne 20 (by omega), ne 21 (by omega), ne 22 (by omega), ne 23 (by omega), ne 24 (by omega), ne 0 (by omega), ne 1 (by omega), ne 2 (by omega), ne 3 (by omega), ne 4 (by omega)]
    by_cases ca : a = 0 <;> by_cases cb : a = b <;> simp [Bool.cond_eq_ite, ca, cb] <;> omega
  all_goals (subst e; simp only [Bool.cond_eq_ite, Int.reduceBEq, kids_s, Int.reduceLT, Int.reduceGT, decide_true, decide_false, Bool.false_eq_true, if_false, if_true, beq_self_eq_true]; simp only [bne_iff_ne, ne_eq, beq_iff_eq, fin, Bool.not_eq_true', bne_eq_false_iff_eq, decide_eq_false_iff_not]; repeat' split)
  all_goals first | omega | (simp; omega) | simp
theorem num_iff (x : Nd) (f : Nat → Int) (hn : 0 ≤ x.n ∧ x.n < 18446744073709551616) (h : twid_s x f = true) : tnum_s x = !decide (x.n > rmos_s x) := by
  obtain ⟨op, w, n, k⟩ := x
  unfold tnum_s rmos_s
  cases c0 : (op == (0 : Int)) with
  | true =>
    obtain rfl := eq_of_beq c0
    have h : leaf_s ⟨0, w, n, k⟩ = true := h
    have hn : 0 ≤ n ∧ n < 18446744073709551616 := hn
    have hw : w = 1 ∨ w = 8 ∨ w = 64 := by
      unfold leaf_s at h
      simp [Bool.cond_eq_ite] at h
      omega
    rcases hw with e | e | e <;> subst e
    · rw [Bool.eq_iff_iff]
      show ((n.fdiv (2 ^ 1)) == (0 : Int)) = true ↔ (!decide (n > 1)) = true
      rw [Int.fdiv_eq_ediv_of_nonneg _ (by decide)]
      simp
      omega
    · rw [Bool.eq_iff_iff]
      show ((n.fdiv (2 ^ 8)) == (0 : Int)) = true ↔ (!decide (n > 255)) = true
      rw [Int.fdiv_eq_ediv_of_nonneg _ (by decide)]
      simp
      omega
    · show true = (!decide (n > 18446744073709551615))
      rw [decide_eq_false (by omega)]; rfl
  | false =>
    have hn : 0 ≤ n ∧ n < 18446744073709551616 := hn
    cases c1 : (op == (1 : Int)) with
    | true => show decide (n < 16) = !decide (n > 15); rw [Bool.eq_iff_iff]; simp; omega
    | false =>
      cases c2 : (op == (2 : Int)) with
      | true => show decide (n < 8) = !decide (n > 7); rw [Bool.eq_iff_iff]; simp; omega
      | false => show (n == 0) = !decide (n > 0); rw [Bool.eq_iff_iff]; simp; omega
theorem trig_same (x : Nd) (l : List Nd) (hw : ∀ j, j < l.length → 0 ≤ (l.getD j default).w) (hn : 0 ≤ x.n ∧ x.n < 18446744073709551616) : rrig_s x l = trig_s x l ∧ (trig_s x l = 0 → 0 ≤ x.w) := by
  unfold rrig_s trig_s
  cases c1 : decide (x.op < (0 : Int)) with
  | true => exact ⟨rfl, fun h => by cases h⟩
  | false =>
    cases c2 : decide (x.op > (24 : Int)) with
    | true => exact ⟨rfl, fun h => by cases h⟩
    | false =>
      have c1 := of_decide_eq_false c1
      have c2 := of_decide_eq_false c2
      obtain ⟨f, hf, e1, e2⟩ := rrig_l0_eq (x := x) hw ((3 - ((0) : Int)).toNat + 1) (fun _ => 0) 0 (by omega) (Nat.lt_succ_self _) (fun _ => Int.le_refl 0)
      simp only [cond_false]
      rw [e2]
      unfold tkid_s
      rw [e1]
      generalize (tkid_l0 x l ((3 - ((0) : Int)).toNat + 1) (fun _ => 0) 0).2 = b
      cases b with
      | false => exact ⟨rfl, fun h => by cases h⟩
      | true =>
        have w := wide_iff x f ⟨by omega, by omega⟩ hf
        have nn := num_iff x f hn
        unfold tailR
        generalize twid_s x f = t at *
        generalize (rwd_s x (f 0) (f 1) (f 2) != x.w) = p at *
        cases q : decide (x.w < 0) with
        | true =>
          rw [q] at w
          obtain rfl : t = false := by rw [w]; cases p <;> rfl
          cases p <;> exact ⟨rfl, fun h => by cases h⟩
        | false =>
          have q' := of_decide_eq_false q
          rw [q] at w
          cases p with
          | true => subst w; exact ⟨rfl, fun h => by cases h⟩
          | false =>
            subst w
            have nn := nn rfl
            generalize tnum_s x = u at *
            subst nn
            refine ⟨?_, fun _ => by omega⟩
            cases decide (x.n > rmos_s x) <;> rfl
theorem chk_l0_same {l : List Nd} (hn : ∀ j, U64 (l.getD j default).n) : ∀ (m : Nat) (i : Int), 0 ≤ i → i ≤ l.length → (∀ j : Nat, j < i → 0 ≤ (l.getD j default).w) → rchk_l0 l m i = tchk_l0 l m i := by
  intro m
  induction m with
  | zero => intro i _ _ _; rfl
  | succ m ih =>
    intro i h0 h1 hw
    rw [rchk_l0, tchk_l0]
    cases c : decide (i < (l.length : Int)) with
    | false => rfl
    | true =>
      have c := of_decide_eq_true c
      have hl : ((l.take i.toNat).drop 0).length = i.toNat := by rw [List.drop_zero, List.length_take]; omega
      obtain ⟨e, ew⟩ := trig_same (l.getD i.toNat default) ((l.take i.toNat).drop 0) (fun j hj => by
        rw [hl] at hj
        have := hw j (by omega)
        rw [List.drop_zero, List.getD_eq_getElem?_getD, List.getElem?_take_of_lt hj, ← List.getD_eq_getElem?_getD]; exact this) (hn _)
      rw [e]
      cases c1 : (i == (65536 : Int)) with
      | true => rfl
      | false =>
        cases c2 : (trig_s (l.getD i.toNat default) ((l.take i.toNat).drop 0) != (0 : Int)) with
        | true => rfl
        | false =>
          refine ih (i + 1) (by omega) (by omega) fun j hj => ?_
          by_cases ej : (j : Int) = i
          · obtain rfl : j = i.toNat := by omega
            exact ew (by simpa using c2)
          · exact hw j (by omega)
theorem chk_same {l : List Nd} (hn : ∀ j, U64 (l.getD j default).n) : rchk_s l = tchk_s l := by
  unfold rchk_s tchk_s
  rw [chk_l0_same hn _ 0 (by omega) (by omega) (fun j hj => by omega)]
theorem nds_of_rchk {l : List Nd} (hn : ∀ j, U64 (l.getD j default).n) (h : (rchk_s l).1 = 0) : NdsOk l ∧ 1 ≤ l.length := nds_of_chk (chk_same hn ▸ h)
end Go.Proofs.YtahobmjchppciaaDoor.Sx.M5
/- What the functions of a chapter compute, as contracts; written by a program of this session. -/
open Go Go.Proofs Go.RowKit
namespace Go.Proofs.YtahobmjchppciaaDoor.Sx.M5
set_option linter.unusedVariables false
set_option linter.unusedSimpArgs false
theorem kmee_rng (w a b c e : Int) : U64 (kmee_s w a b c e).1 ∧ U64 (kmee_s w a b c e).2.1 := by
  unfold kmee_s
  have h0 : U64 (0 : Int) := ⟨Int.le_refl 0, by decide⟩
  cases (Go.bits .and .u64 (Go.bits .or .u64 ((krig_s w a b).1) ((krig_s w c e).1)) (Go.bits .or .u64 ((krig_s w a b).2) ((krig_s w c e).2)) != (0 : Int)) with
  | true => exact ⟨h0, h0⟩
  | false => exact ⟨bits_u64_rng .or ((krig_s w a b).1) ((krig_s w c e).1), bits_u64_rng .or ((krig_s w a b).2) ((krig_s w c e).2)⟩
theorem gwho_rng (w : Int) : GuR (gwho_s w) := by
  have h0 : U64 (0 : Int) := ⟨Int.le_refl 0, by decide⟩
  exact ⟨h0, mask_rng w, h0, h0⟩
theorem gtig_c_rng (w : Int) (g : Gu) {lo hi : Int} (z e : Int) (h1 : 0 ≤ lo) (h2 : hi < 18446744073709551616) : GuR (gtig_c4 w g lo hi z e) := by
  unfold gtig_c4
  cases c : decide (lo > hi) with
  | true => exact gwho_rng w
  | false =>
    have c := of_decide_eq_false c
    generalize hk : kmee_s w z e _ _ = k
    have r : U64 k.1 ∧ U64 k.2.1 := hk ▸ kmee_rng _ _ _ _ _
    rw [cond_false]
    cases (!(k.2.2)) with
    | true => exact gwho_rng w
    | false => exact ⟨⟨h1, by show lo < _; omega⟩, ⟨by show 0 ≤ hi; omega, h2⟩, r.1, r.2⟩
theorem gtig_rng (w : Int) (g : Gu) : GuR (gtig_s w g) := by
  unfold gtig_s
  have q := (krig_rng w g.z g.e).2
  have b := bits_u64_rng .andNot (mask_s w) ((krig_s w g.z g.e).1)
  exact gtig_c_rng _ _ _ _ (by omega) (by omega)
theorem ways_a {op : Int} (h : op = 5 ∨ (8 ≤ op ∧ op ≤ 21)) : (ways_L)[0 + op.toNat * 1]? = some (fv 20) := by
  have : op.toNat = 5 ∨ op.toNat = 8 ∨ op.toNat = 9 ∨ op.toNat = 10 ∨ op.toNat = 11 ∨ op.toNat = 12 ∨ op.toNat = 13 ∨ op.toNat = 14 ∨ op.toNat = 15 ∨ op.toNat = 16 ∨ op.toNat = 17 ∨ op.toNat = 18 ∨ op.toNat = 19 ∨ op.toNat = 20 ∨ op.toNat = 21 := by omega
  rcases this with e | e | e | e | e | e | e | e | e | e | e | e | e | e | e <;> rw [e] <;> rfl
theorem ways_o {op : Int} (h : op = 1 ∨ op = 2 ∨ op = 23) : (ways_L)[0 + op.toNat * 1]? = some (fv 19) := by
  rcases h with e | e | e <;> rw [e] <;> rfl
theorem ways_n {op : Int} (h : op = 3 ∨ op = 4 ∨ op = 24) : (ways_L)[0 + op.toNat * 1]? = some (.v .nilFunc) := by
  rcases h with e | e | e <;> rw [e] <;> rfl
theorem ways_0 {op : Int} (h : op = 0) : (ways_L)[0 + op.toNat * 1]? = some (fv 18) := by rw [h]; rfl
theorem ways_6 {op : Int} (h : op = 6) : (ways_L)[0 + op.toNat * 1]? = some (fv 21) := by rw [h]; rfl
theorem ways_7 {op : Int} (h : op = 7) : (ways_L)[0 + op.toNat * 1]? = some (fv 22) := by rw [h]; rfl
theorem ways_22 {op : Int} (h : op = 22) : (ways_L)[0 + op.toNat * 1]? = some (fv 23) := by rw [h]; rfl

def sof_l0 (l : List Nd) : Nat → List Gu → Int → List Gu × Int
  | 0, _, _ => default
  | m + 1, out, i => (bif decide (i < (l.length : Int)) then (bif decide ((l.getD ((i).toNat) default).op = 5 ∨ (8 ≤ (l.getD ((i).toNat) default).op ∧ (l.getD ((i).toNat) default).op ≤ 21)) then (sof_l0 l m (out ++ ([(gtig_s ((l.getD ((i).toNat) default).w) (mapp_s l out (l.getD ((i).toNat) default)))] : List Gu)) (i + 1)) else (bif decide ((l.getD ((i).toNat) default).op = 1 ∨ (l.getD ((i).toNat) default).op = 2 ∨ (l.getD ((i).toNat) default).op = 23) then (sof_l0 l m (out ++ ([(gtig_s ((l.getD ((i).toNat) default).w) (mope_s l out (l.getD ((i).toNat) default)))] : List Gu)) (i + 1)) else (bif decide ((l.getD ((i).toNat) default).op = 3 ∨ (l.getD ((i).toNat) default).op = 4 ∨ (l.getD ((i).toNat) default).op = 24) then (sof_l0 l m (out ++ ([(⟨0, 0, 0, 0⟩ : Gu)] : List Gu)) (i + 1)) else (bif decide ((l.getD ((i).toNat) default).op = 0) then (sof_l0 l m (out ++ ([(gtig_s ((l.getD ((i).toNat) default).w) (mcon_s l out (l.getD ((i).toNat) default)))] : List Gu)) (i + 1)) else (bif decide ((l.getD ((i).toNat) default).op = 6) then (sof_l0 l m (out ++ ([(gtig_s ((l.getD ((i).toNat) default).w) (mwid_s l out (l.getD ((i).toNat) default)))] : List Gu)) (i + 1)) else (bif decide ((l.getD ((i).toNat) default).op = 7) then (sof_l0 l m (out ++ ([(gtig_s ((l.getD ((i).toNat) default).w) (mlow_s l out (l.getD ((i).toNat) default)))] : List Gu)) (i + 1)) else (sof_l0 l m (out ++ ([(gtig_s ((l.getD ((i).toNat) default).w) (mcho_s l out (l.getD ((i).toNat) default)))] : List Gu)) (i + 1)))))))) else (out, (0 : Int)))
set_option maxRecDepth 100000 in
theorem sof_lok0 (l : List Nd) (hl : l.length < 2 ^ 40) : ∀ (m : Nat) (out : List Gu) (i : Int), (0 ≤ i) → (i ≤ l.length) → (out.length = i.toNat) → (NdsOk l) → (∀ j, GuR (out.getD j default)) → l.length - (i : Int).toNat < m → Good Tryd.prog 8 Tryd.f8.ntmps (look []) false (.tup [.ro 4 (((sof_l0 l m out i).1).length) (((sof_l0 l m out i).1).map eGu), .v (.int .i64 ((sof_l0 l m out i).2))]) (postOf [] []) (headAt Tryd.f8 0) [(2, .v (.slice none 0 0)), (3, .v (.int .i64 0)), (6, .ptr 820 0), (7, .ptr 701 0), (24, .ro 6 l.length ((l).map eNd)), (25, .v (.int .i64 (l.length : Int))), (26, .v (.int .i64 i))] [(821, .row 4 45 out.length ((out).map eGu)), (820, .cells [.ro 6 l.length ((l).map eNd), .own 821] 54), (701, .cells [fv 18, fv 19, fv 19, .v .nilFunc, .v .nilFunc, fv 20, fv 21, fv 22, fv 20, fv 20, fv 20, fv 20, fv 20, fv 20, fv 20, fv 20, fv 20, fv 20, fv 20, fv 20, fv 20, fv 20, fv 23, fv 19, .v .nilFunc] 56)] := by
  intro m
  induction m with
  | zero => intro out i i0 i1 i2 hv hg hm; exact absurd hm (Nat.not_lt_zero _)
  | succ m ih =>
    intro out i i0 i1 i2 hv hg hm
    rw [sof_l0]
    cases h7000 : (decide (i < (l.length : Int)))
    · have p7000 := of_decide_eq_false h7000
      refine Good.freeze (n := 821) (by rfl) ?_
      exact good_run Tryd.func8 mixed 400 [(7000, .b false)] (all1 h7000) (by kernel_rfl)
    · have p7000 := of_decide_eq_true h7000
      cases h10010003 : (decide ((l.getD ((i).toNat) default).op = 5 ∨ (8 ≤ (l.getD ((i).toNat) default).op ∧ (l.getD ((i).toNat) default).op ≤ 21)))
      · have p10010003 := of_decide_eq_false h10010003
        cases h20010003 : (decide ((l.getD ((i).toNat) default).op = 1 ∨ (l.getD ((i).toNat) default).op = 2 ∨ (l.getD ((i).toNat) default).op = 23))
        · have p20010003 := of_decide_eq_false h20010003
          cases h30010003 : (decide ((l.getD ((i).toNat) default).op = 3 ∨ (l.getD ((i).toNat) default).op = 4 ∨ (l.getD ((i).toNat) default).op = 24))
          · have p30010003 := of_decide_eq_false h30010003
            cases h40010003 : (decide ((l.getD ((i).toNat) default).op = 0))
            · have p40010003 := of_decide_eq_false h40010003
              cases h50010003 : (decide ((l.getD ((i).toNat) default).op = 6))
              · have p50010003 := of_decide_eq_false h50010003
                cases h60010003 : (decide ((l.getD ((i).toNat) default).op = 7))
                · have p60010003 := of_decide_eq_false h60010003
                  refine good_head (T := [(2, .v (.slice none 0 0)), (3, .v (.int .i64 0)), (6, .ptr 820 0), (7, .ptr 701 0), (24, .ro 6 l.length ((l).map eNd)), (25, .v (.int .i64 (l.length : Int))), (26, .v (.int .i64 (i + 1)))]) (H := [(754, .row 4 45 ((out ++ ([(gtig_s ((l.getD ((i).toNat) default).w) (mcho_s l out (l.getD ((i).toNat) default)))] : List Gu)).length) ((out ++ ([(gtig_s ((l.getD ((i).toNat) default).w) (mcho_s l out (l.getD ((i).toNat) default)))] : List Gu)).map eGu)), (820, .cells [.ro 6 l.length ((l).map eNd), .own 754] 54), (701, .cells [fv 18, fv 19, fv 19, .v .nilFunc, .v .nilFunc, fv 20, fv 21, fv 22, fv 20, fv 20, fv 20, fv 20, fv 20, fv 20, fv 20, fv 20, fv 20, fv 20, fv 20, fv 20, fv 20, fv 20, fv 23, fv 19, .v .nilFunc] 56)]) (todo' := headAt Tryd.f8 0) Tryd.func8 mixed 400 [(7000, .b true), (8000, .el (eNd (l.getD ((i).toNat) default))), (8002, .nm 751), (9001, .nm 752), (10002, .sym (((l.getD ((i).toNat) default).op).toNat)), (10003, .one (fv 23)), (12005, .call [820, 821] [] (.agg [.v (.int .u64 ((mcho_s l out (l.getD ((i).toNat) default)).lo)), .v (.int .u64 ((mcho_s l out (l.getD ((i).toNat) default)).hi)), .v (.int .u64 ((mcho_s l out (l.getD ((i).toNat) default)).z)), .v (.int .u64 ((mcho_s l out (l.getD ((i).toNat) default)).e))])), (12006, .call [] [] (.agg [.v (.int .u64 ((gtig_s ((l.getD ((i).toNat) default).w) (mcho_s l out (l.getD ((i).toNat) default))).lo)), .v (.int .u64 ((gtig_s ((l.getD ((i).toNat) default).w) (mcho_s l out (l.getD ((i).toNat) default))).hi)), .v (.int .u64 ((gtig_s ((l.getD ((i).toNat) default).w) (mcho_s l out (l.getD ((i).toNat) default))).z)), .v (.int .u64 ((gtig_s ((l.getD ((i).toNat) default).w) (mcho_s l out (l.getD ((i).toNat) default))).e))])), (13006, .app 753 (([(gtig_s ((l.getD ((i).toNat) default).w) (mcho_s l out (l.getD ((i).toNat) default)))] : List Gu).length) (([(gtig_s ((l.getD ((i).toNat) default).w) (mcho_s l out (l.getD ((i).toNat) default)))] : List Gu).map eGu)), (13007, .app 754 ((out ++ ([(gtig_s ((l.getD ((i).toNat) default).w) (mcho_s l out (l.getD ((i).toNat) default)))] : List Gu)).length) ((out ++ ([(gtig_s ((l.getD ((i).toNat) default).w) (mcho_s l out (l.getD ((i).toNat) default)))] : List Gu)).map eGu)), (14000, .as_ (.v (.int .i64 (i + 1))))] (.cons h7000 (.cons (show (0 : Int) ≤ i by omega) (.cons (getg (l := l) (n := (i).toNat) eNd default (by omega)) (.cons (show (l.getD ((i).toNat) default).op = ((((l.getD ((i).toNat) default).op).toNat : Nat) : Int) by have := (hv ((i).toNat) (by omega)).op; omega) (.cons (show ((l.getD ((i).toNat) default).op).toNat < 25 by have := (hv ((i).toNat) (by omega)).op; omega) (.cons (ways_22 (show (l.getD ((i).toNat) default).op = 22 by have := (hv i.toNat (by omega)).op; omega)) (all8 (mcho_ok l out (l.getD ((i).toNat) default) (ndq hv (by omega) (by omega) (by have := (hv i.toNat (by omega)).op; omega)) (by omega)) (gtig_ok ((l.getD ((i).toNat) default).w) (mcho_s l out (l.getD ((i).toNat) default)) ) (And.intro (Eq.refl (([(gtig_s ((l.getD ((i).toNat) default).w) (mcho_s l out (l.getD ((i).toNat) default)))] : List Gu).map eGu)) (Eq.refl (([(gtig_s ((l.getD ((i).toNat) default).w) (mcho_s l out (l.getD ((i).toNat) default)))] : List Gu).length))) (oneE eGu (fun _ => rfl) ([(gtig_s ((l.getD ((i).toNat) default).w) (mcho_s l out (l.getD ((i).toNat) default)))] : List Gu)) (show (out.length + ([(gtig_s ((l.getD ((i).toNat) default).w) (mcho_s l out (l.getD ((i).toNat) default)))] : List Gu).length) * 32 ≤ 140737488355328 by have := (hv ((i).toNat) (by omega)).op; (first | omega | (simp only [List.length_append, List.length_cons, List.length_nil, List.length_map, List.length_take, List.length_drop, List.length_replicate, maxLen] <;> omega))) (show out.length + ([(gtig_s ((l.getD ((i).toNat) default).w) (mcho_s l out (l.getD ((i).toNat) default)))] : List Gu).length ≤ maxLen by have := (hv ((i).toNat) (by omega)).op; (first | omega | (simp only [List.length_append, List.length_cons, List.length_nil, List.length_map, List.length_take, List.length_drop, List.length_replicate, maxLen] <;> omega))) (appE eGu out ([(gtig_s ((l.getD ((i).toNat) default).w) (mcho_s l out (l.getD ((i).toNat) default)))] : List Gu)) (wr64 (x := i + 1) (by omega))))))))) (by kernel_rfl) ?_
                  refine Good.ren 754 821 (by kernel_rfl) ?_
                  exact Good.cast (by kernel_rfl) (by kernel_rfl) (ih (out ++ ([(gtig_s ((l.getD ((i).toNat) default).w) (mcho_s l out (l.getD ((i).toNat) default)))] : List Gu)) (i + 1) (by first | omega | (first | omega | (simp only [List.length_append, List.length_cons, List.length_nil, List.length_map, List.length_take, List.length_drop, List.length_replicate, maxLen] <;> omega))) (by first | omega | (first | omega | (simp only [List.length_append, List.length_cons, List.length_nil, List.length_map, List.length_take, List.length_drop, List.length_replicate, maxLen] <;> omega))) (by first | omega | (first | omega | (simp only [List.length_append, List.length_cons, List.length_nil, List.length_map, List.length_take, List.length_drop, List.length_replicate, maxLen] <;> omega))) (by first | assumption | exact (nds_of_chk (by assumption)).1) (by first | exact gu_nil | exact gu_app hg (gtig_rng _ _) | exact gu_app hg gu_zero) (by omega))
                · have p60010003 := of_decide_eq_true h60010003
                  refine good_head (T := [(2, .v (.slice none 0 0)), (3, .v (.int .i64 0)), (6, .ptr 820 0), (7, .ptr 701 0), (24, .ro 6 l.length ((l).map eNd)), (25, .v (.int .i64 (l.length : Int))), (26, .v (.int .i64 (i + 1)))]) (H := [(754, .row 4 45 ((out ++ ([(gtig_s ((l.getD ((i).toNat) default).w) (mlow_s l out (l.getD ((i).toNat) default)))] : List Gu)).length) ((out ++ ([(gtig_s ((l.getD ((i).toNat) default).w) (mlow_s l out (l.getD ((i).toNat) default)))] : List Gu)).map eGu)), (820, .cells [.ro 6 l.length ((l).map eNd), .own 754] 54), (701, .cells [fv 18, fv 19, fv 19, .v .nilFunc, .v .nilFunc, fv 20, fv 21, fv 22, fv 20, fv 20, fv 20, fv 20, fv 20, fv 20, fv 20, fv 20, fv 20, fv 20, fv 20, fv 20, fv 20, fv 20, fv 23, fv 19, .v .nilFunc] 56)]) (todo' := headAt Tryd.f8 0) Tryd.func8 mixed 400 [(7000, .b true), (8000, .el (eNd (l.getD ((i).toNat) default))), (8002, .nm 751), (9001, .nm 752), (10002, .sym (((l.getD ((i).toNat) default).op).toNat)), (10003, .one (fv 22)), (12005, .call [820, 821] [] (.agg [.v (.int .u64 ((mlow_s l out (l.getD ((i).toNat) default)).lo)), .v (.int .u64 ((mlow_s l out (l.getD ((i).toNat) default)).hi)), .v (.int .u64 ((mlow_s l out (l.getD ((i).toNat) default)).z)), .v (.int .u64 ((mlow_s l out (l.getD ((i).toNat) default)).e))])), (12006, .call [] [] (.agg [.v (.int .u64 ((gtig_s ((l.getD ((i).toNat) default).w) (mlow_s l out (l.getD ((i).toNat) default))).lo)), .v (.int .u64 ((gtig_s ((l.getD ((i).toNat) default).w) (mlow_s l out (l.getD ((i).toNat) default))).hi)), .v (.int .u64 ((gtig_s ((l.getD ((i).toNat) default).w) (mlow_s l out (l.getD ((i).toNat) default))).z)), .v (.int .u64 ((gtig_s ((l.getD ((i).toNat) default).w) (mlow_s l out (l.getD ((i).toNat) default))).e))])), (13006, .app 753 (([(gtig_s ((l.getD ((i).toNat) default).w) (mlow_s l out (l.getD ((i).toNat) default)))] : List Gu).length) (([(gtig_s ((l.getD ((i).toNat) default).w) (mlow_s l out (l.getD ((i).toNat) default)))] : List Gu).map eGu)), (13007, .app 754 ((out ++ ([(gtig_s ((l.getD ((i).toNat) default).w) (mlow_s l out (l.getD ((i).toNat) default)))] : List Gu)).length) ((out ++ ([(gtig_s ((l.getD ((i).toNat) default).w) (mlow_s l out (l.getD ((i).toNat) default)))] : List Gu)).map eGu)), (14000, .as_ (.v (.int .i64 (i + 1))))] (.cons h7000 (.cons (show (0 : Int) ≤ i by omega) (.cons (getg (l := l) (n := (i).toNat) eNd default (by omega)) (.cons (show (l.getD ((i).toNat) default).op = ((((l.getD ((i).toNat) default).op).toNat : Nat) : Int) by have := (hv ((i).toNat) (by omega)).op; omega) (.cons (show ((l.getD ((i).toNat) default).op).toNat < 25 by have := (hv ((i).toNat) (by omega)).op; omega) (.cons (ways_7 (of_decide_eq_true h60010003)) (all8 (mlow_ok l out (l.getD ((i).toNat) default) (ndq hv (by omega) (by omega) (by omega)) (by omega)) (gtig_ok ((l.getD ((i).toNat) default).w) (mlow_s l out (l.getD ((i).toNat) default)) ) (And.intro (Eq.refl (([(gtig_s ((l.getD ((i).toNat) default).w) (mlow_s l out (l.getD ((i).toNat) default)))] : List Gu).map eGu)) (Eq.refl (([(gtig_s ((l.getD ((i).toNat) default).w) (mlow_s l out (l.getD ((i).toNat) default)))] : List Gu).length))) (oneE eGu (fun _ => rfl) ([(gtig_s ((l.getD ((i).toNat) default).w) (mlow_s l out (l.getD ((i).toNat) default)))] : List Gu)) (show (out.length + ([(gtig_s ((l.getD ((i).toNat) default).w) (mlow_s l out (l.getD ((i).toNat) default)))] : List Gu).length) * 32 ≤ 140737488355328 by have := (hv ((i).toNat) (by omega)).op; (first | omega | (simp only [List.length_append, List.length_cons, List.length_nil, List.length_map, List.length_take, List.length_drop, List.length_replicate, maxLen] <;> omega))) (show out.length + ([(gtig_s ((l.getD ((i).toNat) default).w) (mlow_s l out (l.getD ((i).toNat) default)))] : List Gu).length ≤ maxLen by have := (hv ((i).toNat) (by omega)).op; (first | omega | (simp only [List.length_append, List.length_cons, List.length_nil, List.length_map, List.length_take, List.length_drop, List.length_replicate, maxLen] <;> omega))) (appE eGu out ([(gtig_s ((l.getD ((i).toNat) default).w) (mlow_s l out (l.getD ((i).toNat) default)))] : List Gu)) (wr64 (x := i + 1) (by omega))))))))) (by kernel_rfl) ?_
                  refine Good.ren 754 821 (by kernel_rfl) ?_
                  exact Good.cast (by kernel_rfl) (by kernel_rfl) (ih (out ++ ([(gtig_s ((l.getD ((i).toNat) default).w) (mlow_s l out (l.getD ((i).toNat) default)))] : List Gu)) (i + 1) (by first | omega | (first | omega | (simp only [List.length_append, List.length_cons, List.length_nil, List.length_map, List.length_take, List.length_drop, List.length_replicate, maxLen] <;> omega))) (by first | omega | (first | omega | (simp only [List.length_append, List.length_cons, List.length_nil, List.length_map, List.length_take, List.length_drop, List.length_replicate, maxLen] <;> omega))) (by first | omega | (first | omega | (simp only [List.length_append, List.length_cons, List.length_nil, List.length_map, List.length_take, List.length_drop, List.length_replicate, maxLen] <;> omega))) (by first | assumption | exact (nds_of_chk (by assumption)).1) (by first | exact gu_nil | exact gu_app hg (gtig_rng _ _) | exact gu_app hg gu_zero) (by omega))
              · have p50010003 := of_decide_eq_true h50010003
                refine good_head (T := [(2, .v (.slice none 0 0)), (3, .v (.int .i64 0)), (6, .ptr 820 0), (7, .ptr 701 0), (24, .ro 6 l.length ((l).map eNd)), (25, .v (.int .i64 (l.length : Int))), (26, .v (.int .i64 (i + 1)))]) (H := [(754, .row 4 45 ((out ++ ([(gtig_s ((l.getD ((i).toNat) default).w) (mwid_s l out (l.getD ((i).toNat) default)))] : List Gu)).length) ((out ++ ([(gtig_s ((l.getD ((i).toNat) default).w) (mwid_s l out (l.getD ((i).toNat) default)))] : List Gu)).map eGu)), (820, .cells [.ro 6 l.length ((l).map eNd), .own 754] 54), (701, .cells [fv 18, fv 19, fv 19, .v .nilFunc, .v .nilFunc, fv 20, fv 21, fv 22, fv 20, fv 20, fv 20, fv 20, fv 20, fv 20, fv 20, fv 20, fv 20, fv 20, fv 20, fv 20, fv 20, fv 20, fv 23, fv 19, .v .nilFunc] 56)]) (todo' := headAt Tryd.f8 0) Tryd.func8 mixed 400 [(7000, .b true), (8000, .el (eNd (l.getD ((i).toNat) default))), (8002, .nm 751), (9001, .nm 752), (10002, .sym (((l.getD ((i).toNat) default).op).toNat)), (10003, .one (fv 21)), (12005, .call [820, 821] [] (.agg [.v (.int .u64 ((mwid_s l out (l.getD ((i).toNat) default)).lo)), .v (.int .u64 ((mwid_s l out (l.getD ((i).toNat) default)).hi)), .v (.int .u64 ((mwid_s l out (l.getD ((i).toNat) default)).z)), .v (.int .u64 ((mwid_s l out (l.getD ((i).toNat) default)).e))])), (12006, .call [] [] (.agg [.v (.int .u64 ((gtig_s ((l.getD ((i).toNat) default).w) (mwid_s l out (l.getD ((i).toNat) default))).lo)), .v (.int .u64 ((gtig_s ((l.getD ((i).toNat) default).w) (mwid_s l out (l.getD ((i).toNat) default))).hi)), .v (.int .u64 ((gtig_s ((l.getD ((i).toNat) default).w) (mwid_s l out (l.getD ((i).toNat) default))).z)), .v (.int .u64 ((gtig_s ((l.getD ((i).toNat) default).w) (mwid_s l out (l.getD ((i).toNat) default))).e))])), (13006, .app 753 (([(gtig_s ((l.getD ((i).toNat) default).w) (mwid_s l out (l.getD ((i).toNat) default)))] : List Gu).length) (([(gtig_s ((l.getD ((i).toNat) default).w) (mwid_s l out (l.getD ((i).toNat) default)))] : List Gu).map eGu)), (13007, .app 754 ((out ++ ([(gtig_s ((l.getD ((i).toNat) default).w) (mwid_s l out (l.getD ((i).toNat) default)))] : List Gu)).length) ((out ++ ([(gtig_s ((l.getD ((i).toNat) default).w) (mwid_s l out (l.getD ((i).toNat) default)))] : List Gu)).map eGu)), (14000, .as_ (.v (.int .i64 (i + 1))))] (.cons h7000 (.cons (show (0 : Int) ≤ i by omega) (.cons (getg (l := l) (n := (i).toNat) eNd default (by omega)) (.cons (show (l.getD ((i).toNat) default).op = ((((l.getD ((i).toNat) default).op).toNat : Nat) : Int) by have := (hv ((i).toNat) (by omega)).op; omega) (.cons (show ((l.getD ((i).toNat) default).op).toNat < 25 by have := (hv ((i).toNat) (by omega)).op; omega) (.cons (ways_6 (of_decide_eq_true h50010003)) (all8 (mwid_ok l out (l.getD ((i).toNat) default) (ndq hv (by omega) (by omega) (by omega)) (by omega)) (gtig_ok ((l.getD ((i).toNat) default).w) (mwid_s l out (l.getD ((i).toNat) default)) ) (And.intro (Eq.refl (([(gtig_s ((l.getD ((i).toNat) default).w) (mwid_s l out (l.getD ((i).toNat) default)))] : List Gu).map eGu)) (Eq.refl (([(gtig_s ((l.getD ((i).toNat) default).w) (mwid_s l out (l.getD ((i).toNat) default)))] : List Gu).length))) (oneE eGu (fun _ => rfl) ([(gtig_s ((l.getD ((i).toNat) default).w) (mwid_s l out (l.getD ((i).toNat) default)))] : List Gu)) (show (out.length + ([(gtig_s ((l.getD ((i).toNat) default).w) (mwid_s l out (l.getD ((i).toNat) default)))] : List Gu).length) * 32 ≤ 140737488355328 by have := (hv ((i).toNat) (by omega)).op; (first | omega | (simp only [List.length_append, List.length_cons, List.length_nil, List.length_map, List.length_take, List.length_drop, List.length_replicate, maxLen] <;> omega))) (show out.length + ([(gtig_s ((l.getD ((i).toNat) default).w) (mwid_s l out (l.getD ((i).toNat) default)))] : List Gu).length ≤ maxLen by have := (hv ((i).toNat) (by omega)).op; (first | omega | (simp only [List.length_append, List.length_cons, List.length_nil, List.length_map, List.length_take, List.length_drop, List.length_replicate, maxLen] <;> omega))) (appE eGu out ([(gtig_s ((l.getD ((i).toNat) default).w) (mwid_s l out (l.getD ((i).toNat) default)))] : List Gu)) (wr64 (x := i + 1) (by omega))))))))) (by kernel_rfl) ?_
                refine Good.ren 754 821 (by kernel_rfl) ?_
                exact Good.cast (by kernel_rfl) (by kernel_rfl) (ih (out ++ ([(gtig_s ((l.getD ((i).toNat) default).w) (mwid_s l out (l.getD ((i).toNat) default)))] : List Gu)) (i + 1) (by first | omega | (first | omega | (simp only [List.length_append, List.length_cons, List.length_nil, List.length_map, List.length_take, List.length_drop, List.length_replicate, maxLen] <;> omega))) (by first | omega | (first | omega | (simp only [List.length_append, List.length_cons, List.length_nil, List.length_map, List.length_take, List.length_drop, List.length_replicate, maxLen] <;> omega))) (by first | omega | (first | omega | (simp only [List.length_append, List.length_cons, List.length_nil, List.length_map, List.length_take, List.length_drop, List.length_replicate, maxLen] <;> omega))) (by first | assumption | exact (nds_of_chk (by assumption)).1) (by first | exact gu_nil | exact gu_app hg (gtig_rng _ _) | exact gu_app hg gu_zero) (by omega))
            · have p40010003 := of_decide_eq_true h40010003
              refine good_head (T := [(2, .v (.slice none 0 0)), (3, .v (.int .i64 0)), (6, .ptr 820 0), (7, .ptr 701 0), (24, .ro 6 l.length ((l).map eNd)), (25, .v (.int .i64 (l.length : Int))), (26, .v (.int .i64 (i + 1)))]) (H := [(754, .row 4 45 ((out ++ ([(gtig_s ((l.getD ((i).toNat) default).w) (mcon_s l out (l.getD ((i).toNat) default)))] : List Gu)).length) ((out ++ ([(gtig_s ((l.getD ((i).toNat) default).w) (mcon_s l out (l.getD ((i).toNat) default)))] : List Gu)).map eGu)), (820, .cells [.ro 6 l.length ((l).map eNd), .own 754] 54), (701, .cells [fv 18, fv 19, fv 19, .v .nilFunc, .v .nilFunc, fv 20, fv 21, fv 22, fv 20, fv 20, fv 20, fv 20, fv 20, fv 20, fv 20, fv 20, fv 20, fv 20, fv 20, fv 20, fv 20, fv 20, fv 23, fv 19, .v .nilFunc] 56)]) (todo' := headAt Tryd.f8 0) Tryd.func8 mixed 400 [(7000, .b true), (8000, .el (eNd (l.getD ((i).toNat) default))), (8002, .nm 751), (9001, .nm 752), (10002, .sym (((l.getD ((i).toNat) default).op).toNat)), (10003, .one (fv 18)), (12005, .call [820, 821] [] (.agg [.v (.int .u64 ((mcon_s l out (l.getD ((i).toNat) default)).lo)), .v (.int .u64 ((mcon_s l out (l.getD ((i).toNat) default)).hi)), .v (.int .u64 ((mcon_s l out (l.getD ((i).toNat) default)).z)), .v (.int .u64 ((mcon_s l out (l.getD ((i).toNat) default)).e))])), (12006, .call [] [] (.agg [.v (.int .u64 ((gtig_s ((l.getD ((i).toNat) default).w) (mcon_s l out (l.getD ((i).toNat) default))).lo)), .v (.int .u64 ((gtig_s ((l.getD ((i).toNat) default).w) (mcon_s l out (l.getD ((i).toNat) default))).hi)), .v (.int .u64 ((gtig_s ((l.getD ((i).toNat) default).w) (mcon_s l out (l.getD ((i).toNat) default))).z)), .v (.int .u64 ((gtig_s ((l.getD ((i).toNat) default).w) (mcon_s l out (l.getD ((i).toNat) default))).e))])), (13006, .app 753 (([(gtig_s ((l.getD ((i).toNat) default).w) (mcon_s l out (l.getD ((i).toNat) default)))] : List Gu).length) (([(gtig_s ((l.getD ((i).toNat) default).w) (mcon_s l out (l.getD ((i).toNat) default)))] : List Gu).map eGu)), (13007, .app 754 ((out ++ ([(gtig_s ((l.getD ((i).toNat) default).w) (mcon_s l out (l.getD ((i).toNat) default)))] : List Gu)).length) ((out ++ ([(gtig_s ((l.getD ((i).toNat) default).w) (mcon_s l out (l.getD ((i).toNat) default)))] : List Gu)).map eGu)), (14000, .as_ (.v (.int .i64 (i + 1))))] (.cons h7000 (.cons (show (0 : Int) ≤ i by omega) (.cons (getg (l := l) (n := (i).toNat) eNd default (by omega)) (.cons (show (l.getD ((i).toNat) default).op = ((((l.getD ((i).toNat) default).op).toNat : Nat) : Int) by have := (hv ((i).toNat) (by omega)).op; omega) (.cons (show ((l.getD ((i).toNat) default).op).toNat < 25 by have := (hv ((i).toNat) (by omega)).op; omega) (.cons (ways_0 (of_decide_eq_true h40010003)) (all8 (mcon_ok l out (l.getD ((i).toNat) default) ) (gtig_ok ((l.getD ((i).toNat) default).w) (mcon_s l out (l.getD ((i).toNat) default)) ) (And.intro (Eq.refl (([(gtig_s ((l.getD ((i).toNat) default).w) (mcon_s l out (l.getD ((i).toNat) default)))] : List Gu).map eGu)) (Eq.refl (([(gtig_s ((l.getD ((i).toNat) default).w) (mcon_s l out (l.getD ((i).toNat) default)))] : List Gu).length))) (oneE eGu (fun _ => rfl) ([(gtig_s ((l.getD ((i).toNat) default).w) (mcon_s l out (l.getD ((i).toNat) default)))] : List Gu)) (show (out.length + ([(gtig_s ((l.getD ((i).toNat) default).w) (mcon_s l out (l.getD ((i).toNat) default)))] : List Gu).length) * 32 ≤ 140737488355328 by have := (hv ((i).toNat) (by omega)).op; (first | omega | (simp only [List.length_append, List.length_cons, List.length_nil, List.length_map, List.length_take, List.length_drop, List.length_replicate, maxLen] <;> omega))) (show out.length + ([(gtig_s ((l.getD ((i).toNat) default).w) (mcon_s l out (l.getD ((i).toNat) default)))] : List Gu).length ≤ maxLen by have := (hv ((i).toNat) (by omega)).op; (first | omega | (simp only [List.length_append, List.length_cons, List.length_nil, List.length_map, List.length_take, List.length_drop, List.length_replicate, maxLen] <;> omega))) (appE eGu out ([(gtig_s ((l.getD ((i).toNat) default).w) (mcon_s l out (l.getD ((i).toNat) default)))] : List Gu)) (wr64 (x := i + 1) (by omega))))))))) (by kernel_rfl) ?_
              refine Good.ren 754 821 (by kernel_rfl) ?_
              exact Good.cast (by kernel_rfl) (by kernel_rfl) (ih (out ++ ([(gtig_s ((l.getD ((i).toNat) default).w) (mcon_s l out (l.getD ((i).toNat) default)))] : List Gu)) (i + 1) (by first | omega | (first | omega | (simp only [List.length_append, List.length_cons, List.length_nil, List.length_map, List.length_take, List.length_drop, List.length_replicate, maxLen] <;> omega))) (by first | omega | (first | omega | (simp only [List.length_append, List.length_cons, List.length_nil, List.length_map, List.length_take, List.length_drop, List.length_replicate, maxLen] <;> omega))) (by first | omega | (first | omega | (simp only [List.length_append, List.length_cons, List.length_nil, List.length_map, List.length_take, List.length_drop, List.length_replicate, maxLen] <;> omega))) (by first | assumption | exact (nds_of_chk (by assumption)).1) (by first | exact gu_nil | exact gu_app hg (gtig_rng _ _) | exact gu_app hg gu_zero) (by omega))
          · have p30010003 := of_decide_eq_true h30010003
            refine good_head (T := [(2, .v (.slice none 0 0)), (3, .v (.int .i64 0)), (6, .ptr 820 0), (7, .ptr 701 0), (24, .ro 6 l.length ((l).map eNd)), (25, .v (.int .i64 (l.length : Int))), (26, .v (.int .i64 (i + 1)))]) (H := [(754, .row 4 45 ((out ++ ([(⟨0, 0, 0, 0⟩ : Gu)] : List Gu)).length) ((out ++ ([(⟨0, 0, 0, 0⟩ : Gu)] : List Gu)).map eGu)), (820, .cells [.ro 6 l.length ((l).map eNd), .own 754] 54), (701, .cells [fv 18, fv 19, fv 19, .v .nilFunc, .v .nilFunc, fv 20, fv 21, fv 22, fv 20, fv 20, fv 20, fv 20, fv 20, fv 20, fv 20, fv 20, fv 20, fv 20, fv 20, fv 20, fv 20, fv 20, fv 23, fv 19, .v .nilFunc] 56)]) (todo' := headAt Tryd.f8 0) Tryd.func8 mixed 400 [(7000, .b true), (8000, .el (eNd (l.getD ((i).toNat) default))), (8002, .nm 751), (9001, .nm 752), (10002, .sym (((l.getD ((i).toNat) default).op).toNat)), (10003, .one (.v .nilFunc)), (13006, .app 753 (([(⟨0, 0, 0, 0⟩ : Gu)] : List Gu).length) (([(⟨0, 0, 0, 0⟩ : Gu)] : List Gu).map eGu)), (13007, .app 754 ((out ++ ([(⟨0, 0, 0, 0⟩ : Gu)] : List Gu)).length) ((out ++ ([(⟨0, 0, 0, 0⟩ : Gu)] : List Gu)).map eGu)), (14000, .as_ (.v (.int .i64 (i + 1))))] (.cons h7000 (.cons (show (0 : Int) ≤ i by omega) (.cons (getg (l := l) (n := (i).toNat) eNd default (by omega)) (.cons (show (l.getD ((i).toNat) default).op = ((((l.getD ((i).toNat) default).op).toNat : Nat) : Int) by have := (hv ((i).toNat) (by omega)).op; omega) (all8 (show ((l.getD ((i).toNat) default).op).toNat < 25 by have := (hv ((i).toNat) (by omega)).op; omega) (ways_n (of_decide_eq_true h30010003)) (And.intro (Eq.refl (([(⟨0, 0, 0, 0⟩ : Gu)] : List Gu).map eGu)) (Eq.refl (([(⟨0, 0, 0, 0⟩ : Gu)] : List Gu).length))) (oneE eGu (fun _ => rfl) ([(⟨0, 0, 0, 0⟩ : Gu)] : List Gu)) (show (out.length + ([(⟨0, 0, 0, 0⟩ : Gu)] : List Gu).length) * 32 ≤ 140737488355328 by (first | omega | (simp only [List.length_append, List.length_cons, List.length_nil, List.length_map, List.length_take, List.length_drop, List.length_replicate, maxLen] <;> omega))) (show out.length + ([(⟨0, 0, 0, 0⟩ : Gu)] : List Gu).length ≤ maxLen by (first | omega | (simp only [List.length_append, List.length_cons, List.length_nil, List.length_map, List.length_take, List.length_drop, List.length_replicate, maxLen] <;> omega))) (appE eGu out ([(⟨0, 0, 0, 0⟩ : Gu)] : List Gu)) (wr64 (x := i + 1) (by omega))))))) (by kernel_rfl) ?_
            refine Good.ren 754 821 (by kernel_rfl) ?_
            exact Good.cast (by kernel_rfl) (by kernel_rfl) (ih (out ++ ([(⟨0, 0, 0, 0⟩ : Gu)] : List Gu)) (i + 1) (by first | omega | (first | omega | (simp only [List.length_append, List.length_cons, List.length_nil, List.length_map, List.length_take, List.length_drop, List.length_replicate, maxLen] <;> omega))) (by first | omega | (first | omega | (simp only [List.length_append, List.length_cons, List.length_nil, List.length_map, List.length_take, List.length_drop, List.length_replicate, maxLen] <;> omega))) (by first | omega | (first | omega | (simp only [List.length_append, List.length_cons, List.length_nil, List.length_map, List.length_take, List.length_drop, List.length_replicate, maxLen] <;> omega))) (by first | assumption | exact (nds_of_chk (by assumption)).1) (by first | exact gu_nil | exact gu_app hg (gtig_rng _ _) | exact gu_app hg gu_zero) (by omega))
        · have p20010003 := of_decide_eq_true h20010003
          refine good_head (T := [(2, .v (.slice none 0 0)), (3, .v (.int .i64 0)), (6, .ptr 820 0), (7, .ptr 701 0), (24, .ro 6 l.length ((l).map eNd)), (25, .v (.int .i64 (l.length : Int))), (26, .v (.int .i64 (i + 1)))]) (H := [(754, .row 4 45 ((out ++ ([(gtig_s ((l.getD ((i).toNat) default).w) (mope_s l out (l.getD ((i).toNat) default)))] : List Gu)).length) ((out ++ ([(gtig_s ((l.getD ((i).toNat) default).w) (mope_s l out (l.getD ((i).toNat) default)))] : List Gu)).map eGu)), (820, .cells [.ro 6 l.length ((l).map eNd), .own 754] 54), (701, .cells [fv 18, fv 19, fv 19, .v .nilFunc, .v .nilFunc, fv 20, fv 21, fv 22, fv 20, fv 20, fv 20, fv 20, fv 20, fv 20, fv 20, fv 20, fv 20, fv 20, fv 20, fv 20, fv 20, fv 20, fv 23, fv 19, .v .nilFunc] 56)]) (todo' := headAt Tryd.f8 0) Tryd.func8 mixed 400 [(7000, .b true), (8000, .el (eNd (l.getD ((i).toNat) default))), (8002, .nm 751), (9001, .nm 752), (10002, .sym (((l.getD ((i).toNat) default).op).toNat)), (10003, .one (fv 19)), (12005, .call [820, 821] [] (.agg [.v (.int .u64 ((mope_s l out (l.getD ((i).toNat) default)).lo)), .v (.int .u64 ((mope_s l out (l.getD ((i).toNat) default)).hi)), .v (.int .u64 ((mope_s l out (l.getD ((i).toNat) default)).z)), .v (.int .u64 ((mope_s l out (l.getD ((i).toNat) default)).e))])), (12006, .call [] [] (.agg [.v (.int .u64 ((gtig_s ((l.getD ((i).toNat) default).w) (mope_s l out (l.getD ((i).toNat) default))).lo)), .v (.int .u64 ((gtig_s ((l.getD ((i).toNat) default).w) (mope_s l out (l.getD ((i).toNat) default))).hi)), .v (.int .u64 ((gtig_s ((l.getD ((i).toNat) default).w) (mope_s l out (l.getD ((i).toNat) default))).z)), .v (.int .u64 ((gtig_s ((l.getD ((i).toNat) default).w) (mope_s l out (l.getD ((i).toNat) default))).e))])), (13006, .app 753 (([(gtig_s ((l.getD ((i).toNat) default).w) (mope_s l out (l.getD ((i).toNat) default)))] : List Gu).length) (([(gtig_s ((l.getD ((i).toNat) default).w) (mope_s l out (l.getD ((i).toNat) default)))] : List Gu).map eGu)), (13007, .app 754 ((out ++ ([(gtig_s ((l.getD ((i).toNat) default).w) (mope_s l out (l.getD ((i).toNat) default)))] : List Gu)).length) ((out ++ ([(gtig_s ((l.getD ((i).toNat) default).w) (mope_s l out (l.getD ((i).toNat) default)))] : List Gu)).map eGu)), (14000, .as_ (.v (.int .i64 (i + 1))))] (.cons h7000 (.cons (show (0 : Int) ≤ i by omega) (.cons (getg (l := l) (n := (i).toNat) eNd default (by omega)) (.cons (show (l.getD ((i).toNat) default).op = ((((l.getD ((i).toNat) default).op).toNat : Nat) : Int) by have := (hv ((i).toNat) (by omega)).op; omega) (.cons (show ((l.getD ((i).toNat) default).op).toNat < 25 by have := (hv ((i).toNat) (by omega)).op; omega) (.cons (ways_o (of_decide_eq_true h20010003)) (all8 (mope_ok l out (l.getD ((i).toNat) default) ) (gtig_ok ((l.getD ((i).toNat) default).w) (mope_s l out (l.getD ((i).toNat) default)) ) (And.intro (Eq.refl (([(gtig_s ((l.getD ((i).toNat) default).w) (mope_s l out (l.getD ((i).toNat) default)))] : List Gu).map eGu)) (Eq.refl (([(gtig_s ((l.getD ((i).toNat) default).w) (mope_s l out (l.getD ((i).toNat) default)))] : List Gu).length))) (oneE eGu (fun _ => rfl) ([(gtig_s ((l.getD ((i).toNat) default).w) (mope_s l out (l.getD ((i).toNat) default)))] : List Gu)) (show (out.length + ([(gtig_s ((l.getD ((i).toNat) default).w) (mope_s l out (l.getD ((i).toNat) default)))] : List Gu).length) * 32 ≤ 140737488355328 by have := (hv ((i).toNat) (by omega)).op; (first | omega | (simp only [List.length_append, List.length_cons, List.length_nil, List.length_map, List.length_take, List.length_drop, List.length_replicate, maxLen] <;> omega))) (show out.length + ([(gtig_s ((l.getD ((i).toNat) default).w) (mope_s l out (l.getD ((i).toNat) default)))] : List Gu).length ≤ maxLen by have := (hv ((i).toNat) (by omega)).op; (first | omega | (simp only [List.length_append, List.length_cons, List.length_nil, List.length_map, List.length_take, List.length_drop, List.length_replicate, maxLen] <;> omega))) (appE eGu out ([(gtig_s ((l.getD ((i).toNat) default).w) (mope_s l out (l.getD ((i).toNat) default)))] : List Gu)) (wr64 (x := i + 1) (by omega))))))))) (by kernel_rfl) ?_
          refine Good.ren 754 821 (by kernel_rfl) ?_
          exact Good.cast (by kernel_rfl) (by kernel_rfl) (ih (out ++ ([(gtig_s ((l.getD ((i).toNat) default).w) (mope_s l out (l.getD ((i).toNat) default)))] : List Gu)) (i + 1) (by first | omega | (first | omega | (simp only [List.length_append, List.length_cons, List.length_nil, List.length_map, List.length_take, List.length_drop, List.length_replicate, maxLen] <;> omega))) (by first | omega | (first | omega | (simp only [List.length_append, List.length_cons, List.length_nil, List.length_map, List.length_take, List.length_drop, List.length_replicate, maxLen] <;> omega))) (by first | omega | (first | omega | (simp only [List.length_append, List.length_cons, List.length_nil, List.length_map, List.length_take, List.length_drop, List.length_replicate, maxLen] <;> omega))) (by first | assumption | exact (nds_of_chk (by assumption)).1) (by first | exact gu_nil | exact gu_app hg (gtig_rng _ _) | exact gu_app hg gu_zero) (by omega))
      · have p10010003 := of_decide_eq_true h10010003
        refine good_head (T := [(2, .v (.slice none 0 0)), (3, .v (.int .i64 0)), (6, .ptr 820 0), (7, .ptr 701 0), (24, .ro 6 l.length ((l).map eNd)), (25, .v (.int .i64 (l.length : Int))), (26, .v (.int .i64 (i + 1)))]) (H := [(754, .row 4 45 ((out ++ ([(gtig_s ((l.getD ((i).toNat) default).w) (mapp_s l out (l.getD ((i).toNat) default)))] : List Gu)).length) ((out ++ ([(gtig_s ((l.getD ((i).toNat) default).w) (mapp_s l out (l.getD ((i).toNat) default)))] : List Gu)).map eGu)), (820, .cells [.ro 6 l.length ((l).map eNd), .own 754] 54), (701, .cells [fv 18, fv 19, fv 19, .v .nilFunc, .v .nilFunc, fv 20, fv 21, fv 22, fv 20, fv 20, fv 20, fv 20, fv 20, fv 20, fv 20, fv 20, fv 20, fv 20, fv 20, fv 20, fv 20, fv 20, fv 23, fv 19, .v .nilFunc] 56)]) (todo' := headAt Tryd.f8 0) Tryd.func8 mixed 400 [(7000, .b true), (8000, .el (eNd (l.getD ((i).toNat) default))), (8002, .nm 751), (9001, .nm 752), (10002, .sym (((l.getD ((i).toNat) default).op).toNat)), (10003, .one (fv 20)), (12005, .call [820, 821] [] (.agg [.v (.int .u64 ((mapp_s l out (l.getD ((i).toNat) default)).lo)), .v (.int .u64 ((mapp_s l out (l.getD ((i).toNat) default)).hi)), .v (.int .u64 ((mapp_s l out (l.getD ((i).toNat) default)).z)), .v (.int .u64 ((mapp_s l out (l.getD ((i).toNat) default)).e))])), (12006, .call [] [] (.agg [.v (.int .u64 ((gtig_s ((l.getD ((i).toNat) default).w) (mapp_s l out (l.getD ((i).toNat) default))).lo)), .v (.int .u64 ((gtig_s ((l.getD ((i).toNat) default).w) (mapp_s l out (l.getD ((i).toNat) default))).hi)), .v (.int .u64 ((gtig_s ((l.getD ((i).toNat) default).w) (mapp_s l out (l.getD ((i).toNat) default))).z)), .v (.int .u64 ((gtig_s ((l.getD ((i).toNat) default).w) (mapp_s l out (l.getD ((i).toNat) default))).e))])), (13006, .app 753 (([(gtig_s ((l.getD ((i).toNat) default).w) (mapp_s l out (l.getD ((i).toNat) default)))] : List Gu).length) (([(gtig_s ((l.getD ((i).toNat) default).w) (mapp_s l out (l.getD ((i).toNat) default)))] : List Gu).map eGu)), (13007, .app 754 ((out ++ ([(gtig_s ((l.getD ((i).toNat) default).w) (mapp_s l out (l.getD ((i).toNat) default)))] : List Gu)).length) ((out ++ ([(gtig_s ((l.getD ((i).toNat) default).w) (mapp_s l out (l.getD ((i).toNat) default)))] : List Gu)).map eGu)), (14000, .as_ (.v (.int .i64 (i + 1))))] (.cons h7000 (.cons (show (0 : Int) ≤ i by omega) (.cons (getg (l := l) (n := (i).toNat) eNd default (by omega)) (.cons (show (l.getD ((i).toNat) default).op = ((((l.getD ((i).toNat) default).op).toNat : Nat) : Int) by have := (hv ((i).toNat) (by omega)).op; omega) (.cons (show ((l.getD ((i).toNat) default).op).toNat < 25 by have := (hv ((i).toNat) (by omega)).op; omega) (.cons (ways_a (of_decide_eq_true h10010003)) (all8 (mapp_ok l out (l.getD ((i).toNat) default) (ndq hv (by omega) (by omega) (by omega)) (by omega) hg) (gtig_ok ((l.getD ((i).toNat) default).w) (mapp_s l out (l.getD ((i).toNat) default)) ) (And.intro (Eq.refl (([(gtig_s ((l.getD ((i).toNat) default).w) (mapp_s l out (l.getD ((i).toNat) default)))] : List Gu).map eGu)) (Eq.refl (([(gtig_s ((l.getD ((i).toNat) default).w) (mapp_s l out (l.getD ((i).toNat) default)))] : List Gu).length))) (oneE eGu (fun _ => rfl) ([(gtig_s ((l.getD ((i).toNat) default).w) (mapp_s l out (l.getD ((i).toNat) default)))] : List Gu)) (show (out.length + ([(gtig_s ((l.getD ((i).toNat) default).w) (mapp_s l out (l.getD ((i).toNat) default)))] : List Gu).length) * 32 ≤ 140737488355328 by have := (hv ((i).toNat) (by omega)).op; (first | omega | (simp only [List.length_append, List.length_cons, List.length_nil, List.length_map, List.length_take, List.length_drop, List.length_replicate, maxLen] <;> omega))) (show out.length + ([(gtig_s ((l.getD ((i).toNat) default).w) (mapp_s l out (l.getD ((i).toNat) default)))] : List Gu).length ≤ maxLen by have := (hv ((i).toNat) (by omega)).op; (first | omega | (simp only [List.length_append, List.length_cons, List.length_nil, List.length_map, List.length_take, List.length_drop, List.length_replicate, maxLen] <;> omega))) (appE eGu out ([(gtig_s ((l.getD ((i).toNat) default).w) (mapp_s l out (l.getD ((i).toNat) default)))] : List Gu)) (wr64 (x := i + 1) (by omega))))))))) (by kernel_rfl) ?_
        refine Good.ren 754 821 (by kernel_rfl) ?_
        exact Good.cast (by kernel_rfl) (by kernel_rfl) (ih (out ++ ([(gtig_s ((l.getD ((i).toNat) default).w) (mapp_s l out (l.getD ((i).toNat) default)))] : List Gu)) (i + 1) (by first | omega | (first | omega | (simp only [List.length_append, List.length_cons, List.length_nil, List.length_map, List.length_take, List.length_drop, List.length_replicate, maxLen] <;> omega))) (by first | omega | (first | omega | (simp only [List.length_append, List.length_cons, List.length_nil, List.length_map, List.length_take, List.length_drop, List.length_replicate, maxLen] <;> omega))) (by first | omega | (first | omega | (simp only [List.length_append, List.length_cons, List.length_nil, List.length_map, List.length_take, List.length_drop, List.length_replicate, maxLen] <;> omega))) (by first | assumption | exact (nds_of_chk (by assumption)).1) (by first | exact gu_nil | exact gu_app hg (gtig_rng _ _) | exact gu_app hg gu_zero) (by omega))
def sof_s (l : List Nd) : List Gu × Int := (bif ((tchk_s l).1) != (0 : Int) then (([] : List Gu), (tchk_s l).1) else (sof_l0 l (l.length - ((0) : Int).toNat + 1) ([] : List Gu) 0))
set_option maxRecDepth 100000 in
theorem sof_ok (l : List Nd) (hl : l.length < 2 ^ 40) : Ok Tryd.prog 8 [.ro 6 l.length ((l).map eNd)] (look []) (.tup [.ro 4 (((sof_s l).1).length) (((sof_s l).1).map eGu), .v (.int .i64 ((sof_s l).2))]) (postOf [] []) := by
  unfold sof_s
  cases h2001 : (((tchk_s l).1) != (0 : Int))
  · have p2001 := bne_eq_false_iff_eq.1 h2001
    refine ok_head (T := [(2, .v (.slice none 0 0)), (3, .v (.int .i64 0)), (6, .ptr 820 0), (7, .ptr 701 0), (24, .ro 6 l.length ((l).map eNd)), (25, .v (.int .i64 (l.length : Int))), (26, .v (.int .i64 0))]) (H := [(820, .cells [.ro 6 l.length ((l).map eNd), .v (.slice none 0 0)] 54), (701, .cells [fv 18, fv 19, fv 19, .v .nilFunc, .v .nilFunc, fv 20, fv 21, fv 22, fv 20, fv 20, fv 20, fv 20, fv 20, fv 20, fv 20, fv 20, fv 20, fv 20, fv 20, fv 20, fv 20, fv 20, fv 23, fv 19, .v .nilFunc] 56)]) (todo := headAt Tryd.f8 0) Tryd.func8 rfl rfl mixed 400 [(1001, .call [] [] (.tup [.v (.int .i64 ((tchk_s l).1)), .v (.int .i64 ((tchk_s l).2))])), (2001, .b false), (4002, .nm 820), (5000, .call [] [] (.agg [fv 18, fv 19, fv 19, .v .nilFunc, .v .nilFunc, fv 20, fv 21, fv 22, fv 20, fv 20, fv 20, fv 20, fv 20, fv 20, fv 20, fv 20, fv 20, fv 20, fv 20, fv 20, fv 20, fv 20, fv 23, fv 19, .v .nilFunc])), (5001, .nm 701)] (all3 (tchk_ok l (by first | omega | (first | omega | (simp only [List.length_append, List.length_cons, List.length_nil, List.length_map, List.length_take, List.length_drop, List.length_replicate, maxLen] <;> omega)))) h2001 ways_ok) (by kernel_rfl) ?_
    refine Good.namedH 821 820 1 4 45 (by decide) (by kernel_rfl) ?_
    exact Good.cast (by kernel_rfl) (by kernel_rfl) (sof_lok0 l hl _ ([] : List Gu) 0 (by first | omega | (first | omega | (simp only [List.length_append, List.length_cons, List.length_nil, List.length_map, List.length_take, List.length_drop, List.length_replicate, maxLen] <;> omega))) (by first | omega | (first | omega | (simp only [List.length_append, List.length_cons, List.length_nil, List.length_map, List.length_take, List.length_drop, List.length_replicate, maxLen] <;> omega))) (by first | omega | (first | omega | (simp only [List.length_append, List.length_cons, List.length_nil, List.length_map, List.length_take, List.length_drop, List.length_replicate, maxLen] <;> omega))) (by first | assumption | exact (nds_of_chk (by assumption)).1) (by first | exact gu_nil | exact gu_app hg (gtig_rng _ _) | exact gu_app hg gu_zero) (Nat.lt_succ_self _))
  · have p2001 := bne_iff_ne.1 h2001
    refine Ok.le (res := .tup [.v (.slice none 0 0), .v (.int .i64 ((tchk_s l).1))]) ?_ (by repeat (first | exact LeA.refl _ | exact LeA.nil _ | exact LeL.nil | apply LeA.tup | apply LeA.agg | apply LeA.vagg | apply LeL.cons | apply LeA.ifc))
    exact ok_run Tryd.func8 rfl rfl mixed 400 [(1001, .call [] [] (.tup [.v (.int .i64 ((tchk_s l).1)), .v (.int .i64 ((tchk_s l).2))])), (2001, .b true)] (all2 (tchk_ok l (by first | omega | (first | omega | (simp only [List.length_append, List.length_cons, List.length_nil, List.length_map, List.length_take, List.length_drop, List.length_replicate, maxLen] <;> omega)))) h2001) (by kernel_rfl)
end Go.Proofs.YtahobmjchppciaaDoor.Sx.M5
/- What the functions of a chapter compute, as contracts; written by a program of this session. -/
open Go Go.Proofs Go.RowKit
namespace Go.Proofs.YtahobmjchppciaaDoor.Sx.M5
set_option linter.unusedVariables false
set_option linter.unusedSimpArgs false
/-- What is known of the next node. -/
def gstep (l : List Nd) (out : List Gu) (x : Nd) : Gu := (bif decide (x.op = 5 ∨ (8 ≤ x.op ∧ x.op ≤ 21)) then gtig_s x.w (mapp_s l out x) else (bif decide (x.op = 1 ∨ x.op = 2 ∨ x.op = 23) then gtig_s x.w (mope_s l out x) else (bif decide (x.op = 3 ∨ x.op = 4 ∨ x.op = 24) then (⟨0, 0, 0, 0⟩ : Gu) else (bif decide (x.op = 0) then gtig_s x.w (mcon_s l out x) else (bif decide (x.op = 6) then gtig_s x.w (mwid_s l out x) else (bif decide (x.op = 7) then gtig_s x.w (mlow_s l out x) else gtig_s x.w (mcho_s l out x)))))))
theorem sof_step (l : List Nd) (m : Nat) (out : List Gu) (i : Int) : sof_l0 l (m + 1) out i = bif decide (i < (l.length : Int)) then sof_l0 l m (out ++ [gstep l out (l.getD i.toNat default)]) (i + 1) else (out, 0) := by
  rw [sof_l0]
  unfold gstep
  generalize l.getD i.toNat default = x
  cases decide (i < (l.length : Int)) with
  | false => rfl
  | true =>
    cases decide (x.op = 5 ∨ (8 ≤ x.op ∧ x.op ≤ 21)) with
    | true => rfl
    | false =>
      cases decide (x.op = 1 ∨ x.op = 2 ∨ x.op = 23) with
      | true => rfl
      | false =>
        cases decide (x.op = 3 ∨ x.op = 4 ∨ x.op = 24) with
        | true => rfl
        | false =>
          cases decide (x.op = 0) with
          | true => rfl
          | false =>
            cases decide (x.op = 6) with
            | true => rfl
            | false =>
              cases decide (x.op = 7) with
              | true => rfl
              | false =>
                rfl
theorem sof_l0_len {l : List Nd} : ∀ (m : Nat) (out : List Gu) (i : Int), 0 ≤ i → i ≤ l.length → l.length - i.toNat < m → out.length = i.toNat → (sof_l0 l m out i).1.length = l.length := by
  intro m
  induction m with
  | zero => intro out i _ _ h; omega
  | succ m ih =>
    intro out i h0 h1 hm ho
    rw [sof_step]
    cases c : decide (i < (l.length : Int)) with
    | false => have c := of_decide_eq_false c; rw [cond_false]; show out.length = _; omega
    | true =>
      have c := of_decide_eq_true c
      rw [cond_true]
      exact ih _ _ (by omega) (by omega) (by omega) (by simp; omega)
theorem sof_len {l : List Nd} (h : (sof_s l).2 = 0) : (sof_s l).1.length = l.length ∧ 1 ≤ l.length := by
  unfold sof_s at h ⊢
  cases c : ((tchk_s l).1 != (0 : Int)) with
  | true => rw [c] at h; exact absurd h (by simpa using c)
  | false =>
    rw [cond_false]
    exact ⟨sof_l0_len _ _ _ (by omega) (by omega) (Nat.lt_succ_self _) rfl, (nds_of_chk (by simpa using c)).2⟩

def sdec_s (l : List Nd) : Int × Int := (bif ((sof_s l).2) != (0 : Int) then ((0 : Int), (sof_s l).2) else (bif ((l.getD (((l.length : Int) - 1).toNat) default).w) != (1 : Int) then ((0 : Int), (8 : Int)) else (bif ((((sof_s l).1).getD (((l.length : Int) - 1).toNat) default).lo) == (1 : Int) then ((1 : Int), (0 : Int)) else (bif ((((sof_s l).1).getD (((l.length : Int) - 1).toNat) default).hi) == (0 : Int) then ((2 : Int), (0 : Int)) else ((0 : Int), (0 : Int))))))
set_option maxRecDepth 100000 in
theorem sdec_ok (l : List Nd) (hl : l.length < 2 ^ 40) : Ok Tryd.prog 10 [.ro 6 l.length ((l).map eNd)] (look []) (.tup [.v (.int .i64 ((sdec_s l).1)), .v (.int .i64 ((sdec_s l).2))]) (postOf [] []) := by
  unfold sdec_s
  have sl := sof_len (l := l)
  cases h2001 : (((sof_s l).2) != (0 : Int))
  · have p2001 := bne_eq_false_iff_eq.1 h2001
    cases h4007 : (((l.getD (((l.length : Int) - 1).toNat) default).w) != (1 : Int))
    · have p4007 := bne_eq_false_iff_eq.1 h4007
      cases h7002 : (((((sof_s l).1).getD (((l.length : Int) - 1).toNat) default).lo) == (1 : Int))
      · have p7002 := ne_of_beq_false h7002
        cases h9002 : (((((sof_s l).1).getD (((l.length : Int) - 1).toNat) default).hi) == (0 : Int))
        · have p9002 := ne_of_beq_false h9002
          exact ok_run Tryd.func10 rfl rfl mixed 400 [(1001, .call [] [] (.tup [.ro 4 (((sof_s l).1).length) (((sof_s l).1).map eGu), .v (.int .i64 ((sof_s l).2))])), (2001, .b false), (4003, .as_ (.v (.int .i64 ((l.length : Int) - 1)))), (4004, .el (eNd (l.getD (((l.length : Int) - 1).toNat) default))), (4007, .b false), (6003, .as_ (.v (.int .i64 ((l.length : Int) - 1)))), (6004, .el (eGu (((sof_s l).1).getD (((l.length : Int) - 1).toNat) default))), (6007, .nm 701), (7002, .b false), (9002, .b false)] (.cons (sof_ok l (by first | omega | (first | omega | (simp only [List.length_append, List.length_cons, List.length_nil, List.length_map, List.length_take, List.length_drop, List.length_replicate, maxLen] <;> omega)))) (.cons h2001 (.cons (wr64 (x := (l.length : Int) - 1) (by omega)) (all8 (show (0 : Int) ≤ (l.length : Int) - 1 by omega) (getg (l := l) (n := ((l.length : Int) - 1).toNat) eNd default (by omega)) h4007 (wr64 (x := (l.length : Int) - 1) (by omega)) (show (0 : Int) ≤ (l.length : Int) - 1 by omega) (getg (l := (sof_s l).1) (n := ((l.length : Int) - 1).toNat) eGu default (by omega)) h7002 h9002)))) (by kernel_rfl)
        · have p9002 := eq_of_beq h9002
          exact ok_run Tryd.func10 rfl rfl mixed 400 [(1001, .call [] [] (.tup [.ro 4 (((sof_s l).1).length) (((sof_s l).1).map eGu), .v (.int .i64 ((sof_s l).2))])), (2001, .b false), (4003, .as_ (.v (.int .i64 ((l.length : Int) - 1)))), (4004, .el (eNd (l.getD (((l.length : Int) - 1).toNat) default))), (4007, .b false), (6003, .as_ (.v (.int .i64 ((l.length : Int) - 1)))), (6004, .el (eGu (((sof_s l).1).getD (((l.length : Int) - 1).toNat) default))), (6007, .nm 701), (7002, .b false), (9002, .b true)] (.cons (sof_ok l (by first | omega | (first | omega | (simp only [List.length_append, List.length_cons, List.length_nil, List.length_map, List.length_take, List.length_drop, List.length_replicate, maxLen] <;> omega)))) (.cons h2001 (.cons (wr64 (x := (l.length : Int) - 1) (by omega)) (all8 (show (0 : Int) ≤ (l.length : Int) - 1 by omega) (getg (l := l) (n := ((l.length : Int) - 1).toNat) eNd default (by omega)) h4007 (wr64 (x := (l.length : Int) - 1) (by omega)) (show (0 : Int) ≤ (l.length : Int) - 1 by omega) (getg (l := (sof_s l).1) (n := ((l.length : Int) - 1).toNat) eGu default (by omega)) h7002 h9002)))) (by kernel_rfl)
      · have p7002 := eq_of_beq h7002
        exact ok_run Tryd.func10 rfl rfl mixed 400 [(1001, .call [] [] (.tup [.ro 4 (((sof_s l).1).length) (((sof_s l).1).map eGu), .v (.int .i64 ((sof_s l).2))])), (2001, .b false), (4003, .as_ (.v (.int .i64 ((l.length : Int) - 1)))), (4004, .el (eNd (l.getD (((l.length : Int) - 1).toNat) default))), (4007, .b false), (6003, .as_ (.v (.int .i64 ((l.length : Int) - 1)))), (6004, .el (eGu (((sof_s l).1).getD (((l.length : Int) - 1).toNat) default))), (6007, .nm 701), (7002, .b true)] (.cons (sof_ok l (by first | omega | (first | omega | (simp only [List.length_append, List.length_cons, List.length_nil, List.length_map, List.length_take, List.length_drop, List.length_replicate, maxLen] <;> omega)))) (.cons h2001 (all8 (wr64 (x := (l.length : Int) - 1) (by omega)) (show (0 : Int) ≤ (l.length : Int) - 1 by omega) (getg (l := l) (n := ((l.length : Int) - 1).toNat) eNd default (by omega)) h4007 (wr64 (x := (l.length : Int) - 1) (by omega)) (show (0 : Int) ≤ (l.length : Int) - 1 by omega) (getg (l := (sof_s l).1) (n := ((l.length : Int) - 1).toNat) eGu default (by omega)) h7002))) (by kernel_rfl)
    · have p4007 := bne_iff_ne.1 h4007
      exact ok_run Tryd.func10 rfl rfl mixed 400 [(1001, .call [] [] (.tup [.ro 4 (((sof_s l).1).length) (((sof_s l).1).map eGu), .v (.int .i64 ((sof_s l).2))])), (2001, .b false), (4003, .as_ (.v (.int .i64 ((l.length : Int) - 1)))), (4004, .el (eNd (l.getD (((l.length : Int) - 1).toNat) default))), (4007, .b true)] (all6 (sof_ok l (by first | omega | (first | omega | (simp only [List.length_append, List.length_cons, List.length_nil, List.length_map, List.length_take, List.length_drop, List.length_replicate, maxLen] <;> omega)))) h2001 (wr64 (x := (l.length : Int) - 1) (by omega)) (show (0 : Int) ≤ (l.length : Int) - 1 by omega) (getg (l := l) (n := ((l.length : Int) - 1).toNat) eNd default (by omega)) h4007) (by kernel_rfl)
  · have p2001 := bne_iff_ne.1 h2001
    exact ok_run Tryd.func10 rfl rfl mixed 400 [(1001, .call [] [] (.tup [.ro 4 (((sof_s l).1).length) (((sof_s l).1).map eGu), .v (.int .i64 ((sof_s l).2))])), (2001, .b true)] (all2 (sof_ok l (by first | omega | (first | omega | (simp only [List.length_append, List.length_cons, List.length_nil, List.length_map, List.length_take, List.length_drop, List.length_replicate, maxLen] <;> omega)))) h2001) (by kernel_rfl)
end Go.Proofs.YtahobmjchppciaaDoor.Sx.M5
/- A guess that is tightened holds what it held. -/
open Go Go.Proofs Go.RowKit
namespace Go.Proofs.YtahobmjchppciaaDoor.Sx.M5
set_option linter.unusedVariables false
set_option linter.unusedSimpArgs false
set_option linter.unusedSimpArgs false
namespace T
theorem hi_bit (x k j : Nat) : (x / 2 ^ k * 2 ^ k).testBit j = (decide (k ≤ j) && x.testBit j) := by
  rw [mulb, divb]
  by_cases h : k ≤ j
  · rw [Nat.sub_add_cancel h]
  · simp [h]
theorem hi_lt {W x k : Nat} (h : x < 2 ^ W) : x / 2 ^ k * 2 ^ k < 2 ^ W := Nat.lt_of_le_of_lt (Nat.div_mul_le_self _ _) h
theorem xor_top {L H D : Nat} (h : L ^^^ H < 2 ^ D) : L / 2 ^ D = H / 2 ^ D := by
  apply Nat.eq_of_testBit_eq
  intro j
  rw [divb, divb]
  have : (L ^^^ H).testBit (j + D) = false := Nat.testBit_lt_two_pow (Nat.lt_of_lt_of_le h (Nat.pow_le_pow_right (by decide) (by omega)))
  rw [Nat.testBit_xor] at this
  cases c1 : L.testBit (j + D) <;> cases c2 : H.testBit (j + D) <;> simp_all
theorem free_eq {D : Nat} (hD : D ≤ 64) : IntKind.u64.wrap (IntKind.u64.wrap (1 * 2 ^ min D 64) - 1) = ((2 ^ D - 1 : Nat) : Int) := by
  rw [Nat.min_eq_left hD, Int.one_mul, pow_cast, u64_nat]
  by_cases e : D = 64
  · subst e; rw [wrap_u64]; decide
  · have h : 2 ^ D < 2 ^ 64 := Nat.pow_lt_pow_right (by decide) (by omega)
    have hp := Nat.two_pow_pos D
    rw [Nat.mod_eq_of_lt h, u64_small (by omega) (by omega)]
    omega
theorem bit_hi {W x j : Nat} (h : x < 2 ^ W) (hj : W ≤ j) : x.testBit j = false := Nat.testBit_lt_two_pow (Nat.lt_of_lt_of_le h (Nat.pow_le_pow_right (by decide) hj))
theorem compl_bit {a j : Nat} (ha : a < 2 ^ 64) (hj : j < 64) : (2 ^ 64 - 1 - a).testBit j = !a.testBit j := by
  rw [← notN_eq ha, notN_bit, decide_eq_true hj, Bool.true_and]
theorem cut_free {x D : Nat} (hx : x < 2 ^ 64) (hD : D ≤ 64) : Go.bits .andNot .u64 (x : Int) ((2 ^ D - 1 : Nat) : Int) = ((x / 2 ^ D * 2 ^ D : Nat) : Int) := by
  have hp : 2 ^ D ≤ 2 ^ 64 := Nat.pow_le_pow_right (by decide) hD
  have hp1 := Nat.two_pow_pos D
  rw [H.andNot_nat _ _ hx (by omega)]
  congr 1
  apply Nat.eq_of_testBit_eq
  intro j
  rw [Nat.testBit_and, hi_bit]
  by_cases hj : j < 64
  · rw [compl_bit (by omega) hj, Nat.testBit_two_pow_sub_one]
    by_cases c : D ≤ j
    · rw [decide_eq_true c, decide_eq_false (by omega : ¬ j < D), Bool.not_false, Bool.and_true, Bool.true_and]
    · rw [decide_eq_false c, decide_eq_true (by omega : j < D), Bool.not_true, Bool.and_false, Bool.false_and]
  · rw [bit_hi hx (by omega), Bool.false_and, Bool.and_false]
theorem not_bit {W L k : Nat} (hL : L < 2 ^ W) (hk : k < W) : (2 ^ W - 1 - L).testBit k = !L.testBit k := by
  rw [← notN_eq hL, notN_bit, decide_eq_true hk, Bool.true_and]
theorem andNot_mask {w : Int} {Z : Nat} (hZ : Z < 2 ^ cw w) : Go.bits .andNot .u64 (mask_s w) (Z : Int) = ((2 ^ cw w - 1 - Z : Nat) : Int) := by
  have hW := cw_range w
  have hp := Nat.two_pow_pos (cw w)
  have hp64 := pow_le64 hW.2
  rw [mask_eq, H.andNot_nat _ _ (by omega) (by omega)]
  congr 1
  apply Nat.eq_of_testBit_eq
  intro j
  rw [Nat.testBit_and, Nat.testBit_two_pow_sub_one]
  by_cases hj : j < cw w
  · rw [decide_eq_true hj, Bool.true_and, compl_bit (by omega) (by omega), not_bit hZ hj]
  · rw [decide_eq_false hj, Bool.false_and, bit_hi (by omega : 2 ^ cw w - 1 - Z < 2 ^ cw w) (by omega)]
theorem one_le {E n : Nat} (h : ∀ i, E.testBit i = true → n.testBit i = true) : E ≤ n := by
  have : E &&& n = E := by
    apply Nat.eq_of_testBit_eq
    intro i
    rw [Nat.testBit_and]
    cases c : E.testBit i with
    | false => rfl
    | true => rw [h i c]; rfl
  have := Nat.and_le_right (n := E) (m := n)
  omega
theorem zero_le {W Z n : Nat} (hZ : Z < 2 ^ W) (hn : n < 2 ^ W) (h : ∀ i, Z.testBit i = true → n.testBit i = false) : n ≤ 2 ^ W - 1 - Z := by
  refine one_le fun i hi => ?_
  by_cases c : i < W
  · rw [not_bit hZ c]
    cases d : Z.testBit i with
    | false => rfl
    | true => rw [h i d] at hi; cases hi
  · rw [bit_hi hn (by omega)] at hi; cases hi
/-- What is so of a guess that was tightened. -/
structure Tight (W : Nat) (b : Nat × Nat) (g : Gu) (n : Nat) : Prop where
  lo : g.lo ≤ (n : Int)
  hi : (n : Int) ≤ g.hi
  bits : ∃ Z E : Nat, g.z = Z ∧ g.e = E ∧ Z < 2 ^ W ∧ E < 2 ^ W ∧ H.Fits (Z, E) n ∧ H.Sub b (Z, E)
  lo' : (b.2 : Int) ≤ g.lo
  hi' : g.hi ≤ ((2 ^ W - 1 - b.1 : Nat) : Int)
theorem fits_or {a b c d n : Nat} (h1 : H.Fits (a, b) n) (h2 : H.Fits (c, d) n) : H.Fits (a ||| c, b ||| d) n := fun i => by
  have q1 := h1 i
  have q2 := h2 i
  constructor
  · intro h
    have h : (a ||| c).testBit i = true := h
    rw [Nat.testBit_or, Bool.or_eq_true] at h
    exact h.elim q1.1 q2.1
  · intro h
    have h : (b ||| d).testBit i = true := h
    rw [Nat.testBit_or, Bool.or_eq_true] at h
    exact h.elim q1.2 q2.2
theorem fits_dj {b : Nat × Nat} {n : Nat} (h : H.Fits b n) : b.1 &&& b.2 = 0 := by
  rw [H.and0_iff]
  intro i hi
  cases c : b.2.testBit i with
  | false => rfl
  | true => have := (h i).1 hi; rw [(h i).2 c] at this; cases this
theorem tight_in (w : Int) (g : Gu) (hz : U64 g.z) (he : U64 g.e) {n : Nat} (hn : n < 2 ^ cw w) (h1 : g.lo ≤ (n : Int)) (h2 : (n : Int) ≤ g.hi) (f : H.Fits (H.rightK (cw w) (g.z.toNat, g.e.toNat)) n) : Tight (cw w) (H.rightK (cw w) (g.z.toNat, g.e.toNat)) (gtig_s w g) n := by
  have hW := cw_range w
  have hp := Nat.two_pow_pos (cw w)
  have hp64 := pow_le64 hW.2
  have kr := H.krig_eq w (g.z.toNat, g.e.toNat) (by show g.z.toNat < _; omega) (by show g.e.toNat < _; omega)
  simp only [Int.toNat_of_nonneg hz.1, Int.toNat_of_nonneg he.1] at kr
  have ok := H.right_okK (cw w) (g.z.toNat, g.e.toNat)
  generalize H.rightK (cw w) (g.z.toNat, g.e.toNat) = b at *
  obtain ⟨Z, E⟩ := b
  obtain ⟨lz, le, _⟩ := ok
  have lz : Z < 2 ^ cw w := lz
  have le : E < 2 ^ cw w := le
  have sr : (srig_s w g.lo g.hi).1 ≤ (n : Int) ∧ (n : Int) ≤ (srig_s w g.lo g.hi).2 := by
    unfold srig_s whol_s
    have hm : (n : Int) ≤ mask_s w := by rw [mask_eq]; omega
    cases decide (g.lo > g.hi) with
    | true => exact ⟨Int.natCast_nonneg _, hm⟩
    | false =>
      cases decide (g.hi > mask_s w) with
      | true => exact ⟨Int.natCast_nonneg _, hm⟩
      | false => exact ⟨h1, h2⟩
  have eN := one_le (E := E) (n := n) fun i hi => (f i).2 hi
  have zN := zero_le lz hn fun i hi => (f i).1 hi
  unfold gtig_s
  rw [kr]
  simp only [H.KZ]
  rw [andNot_mask lz]
  generalize hlo : max (srig_s w g.lo g.hi).1 (E : Int) = lo
  generalize hhi : min (srig_s w g.lo g.hi).2 ((2 ^ cw w - 1 - Z : Nat) : Int) = hi
  have b1 : lo ≤ (n : Int) := by omega
  have b2 : (n : Int) ≤ hi := by omega
  have b3 : (E : Int) ≤ lo := by omega
  have b4 : hi ≤ ((2 ^ cw w - 1 - Z : Nat) : Int) := by omega
  clear hlo hhi sr h1 h2 kr
  unfold gtig_c4
  rw [decide_eq_false (by omega : ¬ lo > hi), cond_false]
  obtain ⟨L, rfl⟩ : ∃ L : Nat, lo = L := ⟨lo.toNat, by omega⟩
  obtain ⟨U, rfl⟩ : ∃ U : Nat, hi = U := ⟨hi.toNat, by omega⟩
  have hL : L < 2 ^ cw w := by omega
  have hU : U < 2 ^ cw w := by omega
  have hX : L ^^^ U < 2 ^ 64 := Nat.xor_lt_two_pow (by omega) (by omega)
  obtain ⟨D, l1, l2, l3, _⟩ := len64_is (x := ((L ^^^ U : Nat) : Int)) ⟨by omega, by omega⟩
  rw [pow_cast] at l3
  have top := xor_top (L := L) (H := U) (D := D) (by omega)
  have ntop : n / 2 ^ D = L / 2 ^ D := by
    have q1 := Nat.div_le_div_right (c := 2 ^ D) (show L ≤ n by omega)
    have q2 := Nat.div_le_div_right (c := 2 ^ D) (show n ≤ U by omega)
    omega
  have nbit : ∀ j, D ≤ j → n.testBit j = L.testBit j := fun j hj => by
    have a : n.testBit j = (n / 2 ^ D).testBit (j - D) := by rw [divb, Nat.sub_add_cancel hj]
    have b : L.testBit j = (L / 2 ^ D).testBit (j - D) := by rw [divb, Nat.sub_add_cancel hj]
    rw [a, b, ntop]
  rw [xor_nat _ _ (by omega) (by omega), l1, Int.toNat_natCast, free_eq l2, H.kof_eq w L (by omega)]
  simp only [H.KZ, H.ofK, Nat.mod_eq_of_lt hL]
  rw [cut_free (by omega) l2, cut_free (by omega) l2]
  have fA : H.Fits ((2 ^ cw w - 1 - L) / 2 ^ D * 2 ^ D, L / 2 ^ D * 2 ^ D) n := fun i => by
    constructor
    · intro h
      have h : ((2 ^ cw w - 1 - L) / 2 ^ D * 2 ^ D).testBit i = true := h
      rw [hi_bit, Bool.and_eq_true, decide_eq_true_eq] at h
      rw [nbit i h.1]
      by_cases c : i < cw w
      · have := h.2; rw [not_bit hL c] at this; simpa using this
      · exact bit_hi hL (by omega)
    · intro h
      have h : (L / 2 ^ D * 2 ^ D).testBit i = true := h
      rw [hi_bit, Bool.and_eq_true, decide_eq_true_eq] at h
      rw [nbit i h.1]; exact h.2
  have lA : (2 ^ cw w - 1 - L) / 2 ^ D * 2 ^ D < 2 ^ cw w := hi_lt (by omega)
  have lB : L / 2 ^ D * 2 ^ D < 2 ^ cw w := hi_lt hL
  generalize (2 ^ cw w - 1 - L) / 2 ^ D * 2 ^ D = A at *
  generalize L / 2 ^ D * 2 ^ D = B at *
  have me := H.meet_eq w (Z, E) (A, B) (by show Z < _; omega) (by show E < _; omega) (by show A < _; omega) (by show B < _; omega)
  have fO := fits_or f fA
  have mk : H.meetK (cw w) (Z, E) (A, B) = ((Z ||| A, E ||| B), true) := by
    unfold H.meetK
    rw [H.right_ofK (show H.OkK (cw w) (Z, E) from ⟨lz, le, fits_dj f⟩), H.right_ofK (show H.OkK (cw w) (A, B) from ⟨lA, lB, fits_dj fA⟩), if_pos (fits_dj fO)]
  rw [mk] at me
  have me : kmee_s w (Z : Int) (E : Int) (A : Int) (B : Int) = (((Z ||| A : Nat) : Int), ((E ||| B : Nat) : Int), true) := me
  rw [me]
  simp only [Bool.not_true, cond_false]
  refine ⟨b1, b2, ⟨Z ||| A, E ||| B, rfl, rfl, Nat.or_lt_two_pow lz lA, Nat.or_lt_two_pow le lB, fO, fun i => ⟨fun h => ?_, fun h => ?_⟩⟩, b3, b4⟩
  · have h : Z.testBit i = true := h
    show (Z ||| A).testBit i = true
    rw [Nat.testBit_or, h]; rfl
  · have h : E.testBit i = true := h
    show (E ||| B).testBit i = true
    rw [Nat.testBit_or, h]; rfl
theorem fits_cut {W : Nat} {b : Nat × Nat} {n : Nat} (h : H.Fits b n) : H.Fits (H.rightK W b) n := by
  unfold H.rightK
  split
  · exact fun i => ⟨fun q => (h i).1 (by have q : (b.1 % 2 ^ W).testBit i = true := q; rw [Nat.testBit_mod_two_pow, Bool.and_eq_true] at q; exact q.2), fun q => (h i).2 (by have q : (b.2 % 2 ^ W).testBit i = true := q; rw [Nat.testBit_mod_two_pow, Bool.and_eq_true] at q; exact q.2)⟩
  · exact H.fits_zero n
end T
end Go.Proofs.YtahobmjchppciaaDoor.Sx.M5
