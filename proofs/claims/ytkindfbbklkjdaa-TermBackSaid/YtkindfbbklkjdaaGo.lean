/- TermBack, by hand: the walks and the plain law, joined. -/
/- TermBack: the numbers of the argument's nodes are of their kinds. -/
import Derived.Test.YtkindfbbklkjdaaGn
namespace Go.Proofs.Ytkindfbbklkjdaa.P
open Go.RowKit Go.Proofs.YtkindfbbklkjdaaW.PrintWords Go.Proofs.YtkindfbbklkjdaaW.PrintLast Go.Proofs.YtkindfbbklkjdaaW.PrintMore
set_option linter.unusedVariables false
set_option linter.unusedSimpArgs false
set_option maxHeartbeats 8000000 in
set_option maxRecDepth 100000 in
theorem back_great (A0 : Option Addr) (c0 : Nat) (l0 : List S32) (w : World) (hr0 : Kd.C k32 w A0 l0.length l0) (hc0 : l0.length ≤ c0) (hs : ¬ (l0.length : Int) ≤ 300) :
    Calls Try.prog 7 #[.slice A0 l0.length c0] w fun e w' => e = .returned (.bool true) ∧ Below w.heap.size w w' := by
  have HB := Aside0.mk (Below.refl w.heap.size w)
  have s0b : decide (300 < (l0.length : Int)) = true := decide_eq_true (by omega)
  have s0c : decide (300 < l0.length) = true := decide_eq_true (by omega)
  clear hr0 hs
  go_enter Try.func7, Try.ntmps7
  go_wp2_with (go_at_call 9; refine (backreachlaw06_awake.calls true _ rfl).mono ?_; rintro e wa ⟨rfl, hb⟩; have n0 := Aside0.mk (below_step HB.out hb); clear HB hb; have HB := n0; clear n0)
  go_ret
  exact ⟨rfl, HB.out⟩
theorem backreachlaw06_TermBack.calls (k : Nat) (A0 : Option Addr) (c0 : Nat) (l0 : List (S32)) (r : Bool) (w : World) (hr0 : Kd.C k32 w A0 l0.length l0) (hc0 : l0.length ≤ c0) (h : backreachlaw06_TermBack.f k l0 = some r) :
    Calls Try.prog 7 #[.slice A0 l0.length c0] w fun e w' => e = .returned (.bool r) ∧ Below w.heap.size w w' := by
  unfold backreachlaw06_TermBack.f at h
  by_cases hf : fitB l0 = true
  case neg => rw [if_neg hf] at h; cases h
  rw [if_pos hf] at h
  obtain rfl : true = r := Option.some.inj h
  clear h
  replace hf : ∀ a ∈ l0, okN a = true := List.all_eq_true.1 hf
  by_cases hs : (l0.length : Int) ≤ 300
  case neg => exact back_great A0 c0 l0 w hr0 hc0 hs
  obtain ⟨m1, u1⟩ := Pure.put_term [] 0 l0 Pure.Good.nil hf (by omega)
  obtain ⟨k1, p1⟩ := u1.ex
  obtain ⟨k2, p2⟩ := (Pure.check_term l0 (Pure.fine_of hf) (by omega)).ex
  by_cases hz : (Pure.checkN l0).1 = 0
  · have g1 := Pure.put_good [] l0 Pure.Good.nil hf
    obtain ⟨z1, z2, _⟩ := Pure.putA_ok [] l0 hz (by simp; omega)
    obtain ⟨x0, x1⟩ := Pure.putA_in [] l0 Pure.Good.nil hf z1
    generalize Pure.putA [] l0 = q1 at p1 g1 z1 z2 x0 x1
    obtain ⟨L1, i1, e1⟩ := q1
    simp only at p1 g1 z1 z2 x0 x1
    subst z1
    obtain ⟨p, rfl⟩ : ∃ p : Nat, i1 = p := ⟨i1.toNat, by omega⟩
    obtain ⟨ta, ht⟩ := Pure.term_told L1 g1 p (by omega)
    obtain ⟨t1, ht1⟩ : ∃ t, t = Pure.termN L1 (p : Int) := ⟨_, rfl⟩
    have zl : t1.length ≤ L1.length := by rw [ht1]; exact Pure.termN_len _ _
    have zp : 0 < t1.length := by rw [ht1]; exact Pure.termN_some L1 _ x0 x1
    obtain ⟨k3, p3⟩ := (Pure.term_term L1 g1 (p : Int)).ex
    rw [← ht1] at ht p3
    have gt := ht.good g1 (by omega)
    obtain ⟨k4, p4⟩ := (Pure.check_term t1 (Pure.fine_of gt.fit) (by have := gt.size; omega)).ex
    rw [gt.check zp] at p4
    have z2' : t1.length ≤ l0.length := by simp at z2; omega
    obtain ⟨m2, u5⟩ := Pure.put_term L1 m1 t1 g1 gt.fit (by omega)
    rw [ht.again g1 (by omega)] at u5
    obtain ⟨k5, p5⟩ := u5.ex
    obtain ⟨m3, u6⟩ := Pure.put_term [] 0 t1 Pure.Good.nil gt.fit (by omega)
    rw [Pure.putA_self t1 gt zp] at u6
    obtain ⟨k6, p6⟩ := u6.ex
    obtain ⟨k7, p7⟩ := (Pure.term_term t1 gt ((t1.length : Int) - 1)).ex
    rw [Pure.term_self t1 gt zp (fun k hk => ht.used g1 (by omega) k hk)] at p7
    obtain ⟨k8, p8⟩ := (Pure.same_self t1 (by omega)).ex
    have e2 : Pure.checkN l0 = (0, (Pure.checkN l0).2) := by rw [← hz]
    rw [e2] at p2
    refine back_some A0 c0 l0 w hr0 hc0 hs (p : Int) _ L1 t1 k1 k2 k3 k4 k5 k6 k7 k8 m1 m2 m3 p1 p2 p3 p4 z2' zp ?_ ?_ (fun op => (Pure.kids_ref op).ex) p5 p6 p7 p8
    · intro i k h0 h1 h2 e
      obtain ⟨a, rfl⟩ : ∃ a : Nat, i = a := ⟨i.toNat, by omega⟩
      obtain ⟨b, rfl⟩ : ∃ b : Nat, k = b := ⟨k.toNat, by omega⟩
      have := ht.dist g1 (by omega) (by omega) (by omega) e
      omega
    · intro i h0 h1
      obtain ⟨a, rfl⟩ : ∃ a : Nat, i = a := ⟨i.toNat, by omega⟩
      obtain ⟨b, h2, h3, h4⟩ := ht.used g1 (by omega) a (by omega)
      exact ⟨(b : Int), by omega, by omega, h4⟩
  · have e1 : Pure.putA [] l0 = ([], 0, (Pure.checkN l0).1) := by unfold Pure.putA; rw [if_neg hz]
    rw [e1] at p1
    exact back_none A0 c0 l0 w hr0 hc0 hs (Pure.checkN l0).1 0 (Pure.checkN l0).2 hf k1 k2 m1 p1 p2 hz
end Go.Proofs.Ytkindfbbklkjdaa.P
