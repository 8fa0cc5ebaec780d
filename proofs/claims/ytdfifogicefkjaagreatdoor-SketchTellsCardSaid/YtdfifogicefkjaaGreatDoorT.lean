/- A guess is tightened by the program as by the document. -/
import Derived.Test.YtdfifogicefkjaaGreatDoorNy
import Derived.Test.YtdfifogicefkjaaGreatDoorSy
import Derived.Test.YtdfifogicefkjaaGreatDoorSx19
import Derived.OpenShut
import Derived.WalkKit
import Derived.ProofKit
import Derived.Test.YtdfifogicefkjaaGreatDoorRows
import Derived.Lib.LaidU8
import Derived.Lib.LaidIn
import Derived.LaidHandle
import Derived.LaidSub
open Go Go.Proofs Go.RowKit
namespace Go.Proofs.YtdfifogicefkjaaGreatDoor.Sx.M5
set_option linter.unusedVariables false
set_option linter.unusedSimpArgs false
theorem hi_bit (x k j : Nat) : (x / 2 ^ k * 2 ^ k).testBit j = (decide (k ≤ j) && x.testBit j) := by
  rw [mulb, divb]
  by_cases h : k ≤ j
  · rw [Nat.sub_add_cancel h]
  · simp [h]
theorem not_bit {W L k : Nat} (hL : L < 2 ^ W) (hk : k < W) : (2 ^ W - 1 - L).testBit k = !L.testBit k := by
  rw [← notN_eq hL, notN_bit, decide_eq_true hk, Bool.true_and]
theorem next_bit (x k j : Nat) : (x / 2 ^ k * 2 ^ k).testBit j = if j = k then x.testBit k else (x / 2 ^ (k + 1) * 2 ^ (k + 1)).testBit j := by
  rw [hi_bit, hi_bit]
  by_cases e : j = k
  · subst e; simp
  · rw [if_neg e]
    have : decide (k ≤ j) = decide (k + 1 ≤ j) := by rw [Bool.eq_iff_iff]; simp; omega
    rw [this]
theorem fro_l0_is {w a b : Int} {W L H : Nat} (hw : w = W) (hW : W ≤ 64) (ha : a = L) (hb : b = H) (hL : L < 2 ^ W) (hH : H < 2 ^ W) : ∀ (m k : Nat) (f g : Nat → Bool), k ≤ W → k < m → Is f ((2 ^ W - 1 - L) / 2 ^ k * 2 ^ k) → Is g (L / 2 ^ k * 2 ^ k) → L / 2 ^ k = H / 2 ^ k → ∃ D, hfro_l0 w a b m f g ((k : Int) - 1) = ((((2 ^ W - 1 - L) / 2 ^ D * 2 ^ D : Nat) : Int), ((L / 2 ^ D * 2 ^ D : Nat) : Int)) ∧ L / 2 ^ D = H / 2 ^ D ∧ (D = 0 ∨ L.testBit (D - 1) ≠ H.testBit (D - 1)) ∧ D ≤ W := by
  intro m
  induction m with
  | zero => intro k f g _ h; omega
  | succ m ih =>
    intro k f g hk hm hf hg he
    have hp := pow_le64 hW
    have fin : (rnum_s f, rnum_s g) = ((((2 ^ W - 1 - L) / 2 ^ k * 2 ^ k : Nat) : Int), ((L / 2 ^ k * 2 ^ k : Nat) : Int)) := by
      rw [rnum_is hf (Nat.lt_of_le_of_lt (Nat.div_mul_le_self _ _) (by omega)), rnum_is hg (Nat.lt_of_le_of_lt (Nat.div_mul_le_self _ _) (by omega))]
    rw [hfro_l0]
    cases k with
    | zero =>
      rw [decide_eq_false (by omega : ¬ ((0 : Nat) : Int) - 1 ≥ 0), cond_false]
      exact ⟨0, fin, he, Or.inl rfl, by omega⟩
    | succ k =>
      have e1 : (((k + 1 : Nat) : Int) - 1) = (k : Int) := by omega
      rw [e1, decide_eq_true (by omega : (k : Int) ≥ 0), cond_true, Int.toNat_natCast]
      have ra := rof_is hw hW (by omega : L < 2 ^ 64) ha
      have rb := rof_is hw hW (by omega : H < 2 ^ 64) hb
      rw [Nat.mod_eq_of_lt hL] at ra
      rw [Nat.mod_eq_of_lt hH] at rb
      rw [ra k (by omega), rb k (by omega)]
      cases c : (L.testBit k == H.testBit k) with
      | false => rw [cond_false]; exact ⟨k + 1, fin, he, Or.inr (by simpa using c), hk⟩
      | true =>
        rw [cond_true]
        have c := eq_of_beq c
        refine ih k _ _ (by omega) (by omega) (upd_is hf fun j hj => ?_) (upd_is hg fun j hj => next_bit _ _ _) (less_same rfl c.symm he)
        rw [next_bit, not_bit hL (by omega)]
theorem fro_is {w a b : Int} {W L H : Nat} (hw : w = W) (hW : W ≤ 64) (ha : a = L) (hb : b = H) (hL : L < 2 ^ W) (hH : H < 2 ^ W) : ∃ D, hfro_s w a b = ((((2 ^ W - 1 - L) / 2 ^ D * 2 ^ D : Nat) : Int), ((L / 2 ^ D * 2 ^ D : Nat) : Int)) ∧ L / 2 ^ D = H / 2 ^ D ∧ (D = 0 ∨ L.testBit (D - 1) ≠ H.testBit (D - 1)) ∧ D ≤ W := by
  unfold hfro_s
  have hp := Nat.two_pow_pos W
  have z1 : (2 ^ W - 1 - L) / 2 ^ W * 2 ^ W = 0 := by rw [Nat.div_eq_of_lt (by omega), Nat.zero_mul]
  have z2 : L / 2 ^ W * 2 ^ W = 0 := by rw [Nat.div_eq_of_lt hL, Nat.zero_mul]
  have := fro_l0_is hw hW ha hb hL hH (((w - 1) + 1 : Int).toNat + 1) W (fun _ => false) (fun _ => false) (Nat.le_refl _) (by omega) (z1 ▸ zero_is) (z2 ▸ zero_is) (by rw [Nat.div_eq_of_lt hL, Nat.div_eq_of_lt hH])
  rwa [← hw] at this
theorem pow_mono {a b : Nat} (h : a ≤ b) : 2 ^ a ≤ 2 ^ b := Nat.pow_le_pow_right (by decide) h
theorem len_of {x D D' : Nat} (h1 : x < 2 ^ D) (h2 : D = 0 ∨ 2 ^ (D - 1) ≤ x) (h3 : x < 2 ^ D') (h4 : D' = 0 ∨ 2 ^ (D' - 1) ≤ x) : D = D' := by
  rcases Nat.lt_trichotomy D D' with h | h | h
  · have := pow_mono (show D ≤ D' - 1 by omega)
    omega
  · exact h
  · have := pow_mono (show D' ≤ D - 1 by omega)
    omega
theorem xor_len {L H D : Nat} (h1 : L / 2 ^ D = H / 2 ^ D) (h2 : D = 0 ∨ L.testBit (D - 1) ≠ H.testBit (D - 1)) : L ^^^ H < 2 ^ D ∧ (D = 0 ∨ 2 ^ (D - 1) ≤ L ^^^ H) := by
  constructor
  · apply Nat.lt_pow_two_of_testBit
    intro i hi
    have a : L.testBit i = (L / 2 ^ D).testBit (i - D) := by rw [divb, Nat.sub_add_cancel hi]
    have b : H.testBit i = (H / 2 ^ D).testBit (i - D) := by rw [divb, Nat.sub_add_cancel hi]
    rw [Nat.testBit_xor, a, b, h1, Bool.xor_self]
  · rcases h2 with h | h
    · exact Or.inl h
    · right
      apply Nat.ge_two_pow_of_testBit
      rw [Nat.testBit_xor]
      cases c1 : L.testBit (D - 1) <;> cases c2 : H.testBit (D - 1) <;> simp_all
theorem free_eq {D : Nat} (hD : D ≤ 64) : IntKind.u64.wrap (IntKind.u64.wrap (1 * 2 ^ min D 64) - 1) = ((2 ^ D - 1 : Nat) : Int) := by
  rw [Nat.min_eq_left hD, Int.one_mul, pow_cast, u64_nat]
  by_cases e : D = 64
  · subst e; rw [wrap_u64]; decide
  · have h : 2 ^ D < 2 ^ 64 := Nat.pow_lt_pow_right (by decide) (by omega)
    have hp := Nat.two_pow_pos D
    rw [Nat.mod_eq_of_lt h, u64_small (by omega) (by omega)]
    omega
theorem cut_free {x D : Nat} (hx : x < 2 ^ 64) (hD : D ≤ 64) : Go.bits .andNot .u64 (x : Int) ((2 ^ D - 1 : Nat) : Int) = ((x / 2 ^ D * 2 ^ D : Nat) : Int) := by
  have hp := pow_mono hD
  have hp1 := Nat.two_pow_pos D
  rw [andNot_nat _ _ hx (by omega)]
  congr 1
  apply Nat.eq_of_testBit_eq
  intro j
  rw [Nat.testBit_and, hi_bit]
  by_cases hj : j < 64
  · rw [compl_bit (by omega) hj, Nat.testBit_two_pow_sub_one]
    by_cases c : D ≤ j
    · rw [decide_eq_true c, decide_eq_false (by omega : ¬ j < D), Bool.not_false, Bool.and_true, Bool.true_and]
    · rw [decide_eq_false c, decide_eq_true (by omega : j < D), Bool.not_true, Bool.and_false, Bool.false_and]
  · rw [bit_hi hx (by omega), Bool.false_and, Bool.and_false]
theorem mask_w (w : Int) : mask_s (cw w : Int) = mask_s w := by rw [mask_eq, mask_eq, cw_cw]
theorem cut_w (w x : Int) : cut_s (cw w : Int) x = cut_s w x := by
  unfold cut_s
  rw [mask_w]
theorem krig_w (w z e : Int) : krig_s (cw w : Int) z e = krig_s w z e := by
  unfold krig_s
  rw [cut_w, cut_w]
theorem kmee_w (w a b c e : Int) : kmee_s (cw w : Int) a b c e = kmee_s w a b c e := by
  unfold kmee_s
  rw [krig_w, krig_w]
theorem srig_w (w a b : Int) : srig_s (cw w : Int) a b = srig_s w a b := by
  unfold srig_s whol_s
  rw [mask_w]
theorem hwho_w (w : Int) : hwho_s (cw w : Int) = gwho_s w := by
  unfold hwho_s gwho_s
  rw [rmsk_int, mask_w]
theorem hwho_same (w : Int) : hwho_s w = gwho_s w := by
  unfold hwho_s gwho_s
  rw [rmsk_int]
theorem tight_c {w : Int} {g : Gu} {lo hi z e : Int} {Z E : Nat} (hz : z = Z) (he : e = E) (ok : OkB (cw w) Z E) (h0 : 0 ≤ lo) (h1 : hi ≤ mask_s w) : htig_c8 w g lo hi z e = gtig_c4 w g lo hi z e := by
  unfold htig_c8 gtig_c4
  rw [rwid_eq, hwho_w]
  cases c : decide (lo > hi) with
  | true => rfl
  | false =>
    have c := of_decide_eq_false c
    have hW := cw_range w
    have hp := Nat.two_pow_pos (cw w)
    have hp64 := pow_le64 hW.2
    rw [mask_eq] at h1
    obtain ⟨L, rfl⟩ : ∃ L : Nat, lo = L := ⟨lo.toNat, by omega⟩
    obtain ⟨H, rfl⟩ : ∃ H : Nat, hi = H := ⟨hi.toNat, by omega⟩
    have hL : L < 2 ^ cw w := by omega
    have hH : H < 2 ^ cw w := by omega
    obtain ⟨D, f1, f2, f3, f4⟩ := fro_is (w := (cw w : Int)) rfl hW.2 rfl rfl hL hH
    obtain ⟨x1, x2⟩ := xor_len f2 f3
    have hX : L ^^^ H < 2 ^ 64 := Nat.xor_lt_two_pow (by omega) (by omega)
    obtain ⟨D', l1, l2, l3, l4⟩ := len64_is (x := ((L ^^^ H : Nat) : Int)) ⟨by omega, by omega⟩
    have eD : D' = D := len_of (by rw [pow_cast] at l3; omega) (by rw [pow_cast] at l4; omega) x1 x2
    subst eD
    have d64 : D' ≤ 64 := by omega
    rw [xor_nat _ _ (by omega) (by omega), l1, Int.toNat_natCast, free_eq d64, kof_eq w (by omega : L < 2 ^ 64), Nat.mod_eq_of_lt hL, f1]
    simp only []
    rw [cut_free (by omega) d64, cut_free (by omega) d64]
    have q1 : ((2 ^ cw w - 1 - L) / 2 ^ D' * 2 ^ D') < 2 ^ 64 := Nat.lt_of_le_of_lt (Nat.div_mul_le_self _ _) (by omega)
    have q2 : (L / 2 ^ D' * 2 ^ D') < 2 ^ 64 := Nat.lt_of_le_of_lt (Nat.div_mul_le_self _ _) (by omega)
    have z64 := ok.z64 hW.2
    have o64 := ok.o64 hW.2
    rw [qmee_same (cw w : Int) (by omega) (by omega) (by omega) (by omega), kmee_w]
theorem andNot_mask {w : Int} {Z : Nat} (hZ : Z < 2 ^ cw w) : Go.bits .andNot .u64 (mask_s w) (Z : Int) = mask_s w - Z := by
  have hW := cw_range w
  have hp := Nat.two_pow_pos (cw w)
  have hp64 := pow_le64 hW.2
  rw [mask_eq, andNot_nat _ _ (by omega) (by omega)]
  have : (2 ^ cw w - 1) &&& (2 ^ 64 - 1 - Z) = 2 ^ cw w - 1 - Z := by
    apply Nat.eq_of_testBit_eq
    intro j
    rw [Nat.testBit_and, Nat.testBit_two_pow_sub_one]
    by_cases hj : j < cw w
    · rw [decide_eq_true hj, Bool.true_and, compl_bit (by omega) (by omega), not_bit hZ hj]
    · rw [decide_eq_false hj, Bool.false_and, bit_hi (by omega : 2 ^ cw w - 1 - Z < 2 ^ cw w) (by omega)]
  rw [this]
  omega
theorem tight_same (w : Int) (g : Gu) (hz : U64 g.z) (he : U64 g.e) : htig_s w g = gtig_s w g := by
  obtain ⟨Z, E, e1, ok, _⟩ := right_both w hz he
  have q : qrig_s (cw w : Int) g.z g.e = ((Z : Int), (E : Int)) := by rw [qrig_same _ hz he, krig_w, e1]
  have hW := cw_range w
  have hp := Nat.two_pow_pos (cw w)
  have hp64 := pow_le64 hW.2
  have hZ := ok.lz
  have hE := ok.lo
  unfold htig_s gtig_s
  rw [rwid_eq, q, e1, rsri_eq, srig_w, rmsk_int, mask_w]
  have hl := srig_le (w := w) (a := g.lo) (b := g.hi)
  generalize srig_s w g.lo g.hi = s at *
  obtain ⟨lo, hi⟩ := s
  simp only [] at *
  rw [andNot_mask hZ]
  have hm := mask_eq w
  rw [u64_small (by omega) (by omega)]
  generalize mask_s w = m at *
  have T := fun (a b : Int) (h0 : 0 ≤ a) (h1 : b ≤ mask_s w) => tight_c (w := w) (g := g) (lo := a) (hi := b) rfl rfl ok h0 h1
  rw [mask_eq, ← hm] at T
  cases c1 : decide ((E : Int) > lo) with
  | true =>
    have c1 := of_decide_eq_true c1
    rw [Int.max_eq_right (by omega)]
    cases c2 : decide (m - (Z : Int) < hi) with
    | true => have c2 := of_decide_eq_true c2; rw [Int.min_eq_right (by omega)]; exact T _ _ (by omega) (by omega)
    | false => have c2 := of_decide_eq_false c2; rw [Int.min_eq_left (by omega)]; exact T _ _ (by omega) (by omega)
  | false =>
    have c1 := of_decide_eq_false c1
    rw [Int.max_eq_left (by omega)]
    cases c2 : decide (m - (Z : Int) < hi) with
    | true => have c2 := of_decide_eq_true c2; rw [Int.min_eq_right (by omega)]; exact T _ _ (by omega) (by omega)
    | false => have c2 := of_decide_eq_false c2; rw [Int.min_eq_left (by omega)]; exact T _ _ (by omega) (by omega)
end Go.Proofs.YtdfifogicefkjaaGreatDoor.Sx.M5
/- Node by node the program guesses as the document. -/
open Go Go.Proofs Go.RowKit
namespace Go.Proofs.YtdfifogicefkjaaGreatDoor.Sx.M5
set_option linter.unusedVariables false
set_option linter.unusedSimpArgs false
def RngP (p : Int × Int) : Prop := U64 p.1 ∧ U64 p.2
theorem bifR {b : Bool} {x y : Int × Int} (hx : RngP x) (hy : RngP y) : RngP (bif b then x else y) := by cases b <;> assumption
theorem qbit_R (r : Nat → Int) : RngP ((qbit_s r).1, (qbit_s r).2) := qbit_rng r
theorem zero_R : RngP ((0 : Int), (0 : Int)) := ⟨⟨Int.le_refl 0, (by decide : (0 : Int) < 18446744073709551616)⟩, ⟨Int.le_refl 0, (by decide : (0 : Int) < 18446744073709551616)⟩⟩
theorem qapp_rng (op w a b c e : Int) : RngP (qapp_s op w a b c e) := by
  unfold qapp_s
  repeat' (first | with_reducible apply bifR | with_reducible exact zero_R | with_reducible exact qbit_R _)
theorem low_cut {w z : Int} (hw : w = 8) (hz : U64 z) : cut_s w (z.tmod 256) = cut_s w z := by
  obtain ⟨Z, rfl⟩ : ∃ Z : Nat, z = Z := ⟨z.toNat, by omega⟩
  have e : (Z : Int).tmod 256 = ((Z % 256 : Nat) : Int) := rfl
  have c8 : cw (8 : Int) = 8 := cw_of (W := 8) (by decide) (by decide)
  rw [e, hw, cut_eq _ _ (by omega), cut_eq _ _ (by omega), c8]
  congr 1
  exact Nat.mod_mod _ _
theorem wide_same {z w : Int} (hz : U64 z) (hb : z ≤ mask_s w) : IntKind.u64.wrap (z + IntKind.u64.wrap (rmsk_s 64 - rmsk_s w)) = Go.bits .or .u64 z (Go.bits .xor .u64 IntKind.u64.max (mask_s w)) := by
  have hW := cw_range w
  have hp := Nat.two_pow_pos (cw w)
  have hp64 := pow_le64 hW.2
  obtain ⟨Z, rfl⟩ : ∃ Z : Nat, z = Z := ⟨z.toNat, by omega⟩
  rw [rmsk_int, rmsk_int, mask_eq w] at *
  have m64 : mask_s 64 = ((2 ^ 64 - 1 : Nat) : Int) := by rw [mask_eq]; rfl
  rw [m64]
  have mx : IntKind.u64.max = ((2 ^ 64 - 1 : Nat) : Int) := rfl
  rw [mx, xor_nat _ _ (by omega) (by omega), not_nat _ _ (by omega : 2 ^ cw w - 1 < 2 ^ 64)]
  have s := all_split hW.2 (2 ^ cw w) (Nat.le_refl _)
  rw [Nat.sub_self, Nat.zero_add] at s
  have e2 : 2 ^ 64 - 1 - (2 ^ cw w - 1) = 2 ^ cw w * (2 ^ (64 - cw w) - 1) := by omega
  rw [or_nat _ _ (by omega) (by omega), e2, Nat.or_comm, ← Nat.two_pow_add_eq_or_of_lt (by omega : Z < 2 ^ cw w), ← e2]
  have i1 : IntKind.u64.wrap (((2 ^ 64 - 1 : Nat) : Int) - ((2 ^ cw w - 1 : Nat) : Int)) = ((2 ^ 64 - 1 : Nat) : Int) - ((2 ^ cw w - 1 : Nat) : Int) := u64_small (by omega) (by omega)
  rw [i1, u64_small (by omega) (by omega)]
  omega
theorem zero_U : U64 (0 : Int) := ⟨Int.le_refl 0, (by decide : (0 : Int) < 18446744073709551616)⟩
theorem cho_same {l : List Nd} {out : List Gu} {x : Nd} (hg : ∀ j, GuR (out.getD j default)) : hcho_s x.w (out.getD (x.k 0).toNat default) (out.getD (x.k 1).toNat default) (out.getD (x.k 2).toNat default) = mcho_s l out x := by
  have g1 := hg (x.k 1).toNat
  have g2 := hg (x.k 2).toNat
  unfold hcho_s mcho_s mjoi_s
  rw [rsjo_eq, qjoi_same x.w g1.2.2.1 g1.2.2.2 g2.2.2.1 g2.2.2.2]
  rfl
theorem cho_rng {l : List Nd} {out : List Gu} {x : Nd} (hg : ∀ j, GuR (out.getD j default)) : U64 (mcho_s l out x).z ∧ U64 (mcho_s l out x).e := by
  unfold mcho_s
  cases ((kid0_s l out x).1.lo == (1 : Int)) with
  | true => exact ⟨(hg _).2.2.1, (hg _).2.2.2⟩
  | false =>
    cases ((kid0_s l out x).1.hi == (0 : Int)) with
    | true => exact ⟨(hg _).2.2.1, (hg _).2.2.2⟩
    | false => exact ⟨bits_u64_rng .and ((krig_s x.w (kid1_s l out x).1.z (kid1_s l out x).1.e).1) ((krig_s x.w (kid2_s l out x).1.z (kid2_s l out x).1.e).1), bits_u64_rng .and ((krig_s x.w (kid1_s l out x).1.z (kid1_s l out x).1.e).2) ((krig_s x.w (kid2_s l out x).1.z (kid2_s l out x).1.e).2)⟩
/-- What both guess of the next node. -/
def Both (l : List Nd) (out : List Gu) (x : Nd) : Prop := (gstep l out x = ⟨0, 0, 0, 0⟩ ∧ hstep l out x = ⟨0, 0, 0, 0⟩) ∨ ∃ g, U64 g.z ∧ U64 g.e ∧ gstep l out x = gtig_s x.w g ∧ hstep l out x = htig_s x.w g
theorem gtig_low {w a b z e : Int} (hw : w = 8) (hz : U64 z) (he : U64 e) : gtig_s w ⟨a, b, z.tmod 256, e.tmod 256⟩ = gtig_s w ⟨a, b, z, e⟩ := by
  have k : krig_s w (z.tmod 256) (e.tmod 256) = krig_s w z e := by unfold krig_s; rw [low_cut hw hz, low_cut hw he]
  unfold gtig_s
  show gtig_c4 w _ (max (srig_s w a b).1 (krig_s w (z.tmod 256) (e.tmod 256)).2) (min (srig_s w a b).2 (Go.bits .andNot .u64 (mask_s w) (krig_s w (z.tmod 256) (e.tmod 256)).1)) (krig_s w (z.tmod 256) (e.tmod 256)).1 (krig_s w (z.tmod 256) (e.tmod 256)).2 = gtig_c4 w _ (max (srig_s w a b).1 (krig_s w z e).2) (min (srig_s w a b).2 (Go.bits .andNot .u64 (mask_s w) (krig_s w z e).1)) (krig_s w z e).1 (krig_s w z e).2
  rw [k]
  rfl
theorem tmod_U {z : Int} (h : U64 z) : U64 (z.tmod 256) := by
  have e : z.tmod 256 = z % 256 := Int.tmod_eq_emod_of_nonneg h.1
  rw [e]
  have := h
  exact ⟨by omega, by omega⟩
theorem both {l : List Nd} {out : List Gu} {x : Nd} (ho : 0 ≤ x.op ∧ x.op ≤ 24) (w7 : x.op = 7 → x.w = 8) (hn : U64 x.n) (hg : ∀ j, GuR (out.getD j default)) (hb : ∀ j, (out.getD j default).z ≤ mask_s (l.getD j default).w) : Both l out x := by
  have ne : ∀ v : Int, x.op ≠ v → (x.op == v) = false := fun v h => beq_false_of_ne h
  have eq : ∀ v : Int, x.op = v → (x.op == v) = true := fun v h => by rw [h]; exact beq_self_eq_true v
  have g0 := hg (x.k 0).toNat
  have g1 := hg (x.k 1).toNat
  unfold Both gstep hstep hloo_s
  have cs : (x.op = 5 ∨ (8 ≤ x.op ∧ x.op ≤ 21)) ∨ (x.op = 1 ∨ x.op = 2 ∨ x.op = 23) ∨ (x.op = 3 ∨ x.op = 4 ∨ x.op = 24) ∨ x.op = 0 ∨ x.op = 6 ∨ x.op = 7 ∨ x.op = 22 := by omega
  rcases cs with c | c | c | c | c | c | c
  · right
    rw [decide_eq_true c, ne 0 (by omega), ne 1 (by omega), ne 2 (by omega), ne 23 (by omega), ne 3 (by omega), ne 4 (by omega), ne 24 (by omega), ne 6 (by omega), ne 7 (by omega), ne 22 (by omega)]
    refine ⟨mapp_s l out x, ?_, ?_, rfl, ?_⟩
    · have := qapp_rng x.op (l.getD (x.k 0).toNat default).w (out.getD (x.k 0).toNat default).z (out.getD (x.k 0).toNat default).e (out.getD (x.k 1).toNat default).z (out.getD (x.k 1).toNat default).e
      rw [← qapp_same _ _ g0.2.2.1 g0.2.2.2 g1.2.2.1 g1.2.2.2] at this
      exact this.1
    · have := qapp_rng x.op (l.getD (x.k 0).toNat default).w (out.getD (x.k 0).toNat default).z (out.getD (x.k 0).toNat default).e (out.getD (x.k 1).toNat default).z (out.getD (x.k 1).toNat default).e
      rw [← qapp_same _ _ g0.2.2.1 g0.2.2.2 g1.2.2.1 g1.2.2.2] at this
      exact this.2
    · simp only [cond_true, cond_false]
      rw [← qapp_same _ _ g0.2.2.1 g0.2.2.2 g1.2.2.1 g1.2.2.2, ← sapp_same _ _ _ _ _ _ g0.1 g0.2.1 g1.1 g1.2.1]
      rfl
  · right
    rw [decide_eq_false (by omega : ¬ (x.op = 5 ∨ (8 ≤ x.op ∧ x.op ≤ 21))), decide_eq_true c]
    refine ⟨gwho_s x.w, zero_U, zero_U, rfl, ?_⟩
    rw [hwho_same, ne 0 (by omega)]
    rcases c with c | c | c
    · rw [eq 1 c]; rfl
    · rw [ne 1 (by omega), eq 2 c]; rfl
    · rw [ne 1 (by omega), ne 2 (by omega), eq 23 c]; rfl
  · left
    rw [decide_eq_false (by omega : ¬ (x.op = 5 ∨ (8 ≤ x.op ∧ x.op ≤ 21))), decide_eq_false (by omega : ¬ (x.op = 1 ∨ x.op = 2 ∨ x.op = 23)), decide_eq_true c]
    refine ⟨rfl, ?_⟩
    rw [ne 0 (by omega), ne 1 (by omega), ne 2 (by omega), ne 23 (by omega)]
    rcases c with c | c | c
    · rw [eq 3 c]; rfl
    · rw [ne 3 (by omega), eq 4 c]; rfl
    · rw [ne 3 (by omega), ne 4 (by omega), eq 24 c]; rfl
  · right
    rw [decide_eq_false (by omega : ¬ (x.op = 5 ∨ (8 ≤ x.op ∧ x.op ≤ 21))), decide_eq_false (by omega : ¬ (x.op = 1 ∨ x.op = 2 ∨ x.op = 23)), decide_eq_false (by omega : ¬ (x.op = 3 ∨ x.op = 4 ∨ x.op = 24)), decide_eq_true c, eq 0 c, qwo_same _ hn]
    exact ⟨mcon_s l out x, bits_u64_rng .xor (cut_s x.w x.n) (mask_s x.w), cut_rng x.w x.n, rfl, rfl⟩
  · right
    rw [decide_eq_false (by omega : ¬ (x.op = 5 ∨ (8 ≤ x.op ∧ x.op ≤ 21))), decide_eq_false (by omega : ¬ (x.op = 1 ∨ x.op = 2 ∨ x.op = 23)), decide_eq_false (by omega : ¬ (x.op = 3 ∨ x.op = 4 ∨ x.op = 24)), decide_eq_false (by omega : ¬ x.op = 0), decide_eq_true c, ne 0 (by omega), ne 1 (by omega), ne 2 (by omega), ne 23 (by omega), ne 3 (by omega), ne 4 (by omega), ne 24 (by omega), eq 6 c]
    rw [wide_same g0.2.2.1 (hb _)]
    exact ⟨mwid_s l out x, bits_u64_rng .or (kid0_s l out x).1.z (Go.bits .xor .u64 IntKind.u64.max (mask_s (kid0_s l out x).2)), g0.2.2.2, rfl, rfl⟩
  · right
    have hw := w7 c
    rw [decide_eq_false (by omega : ¬ (x.op = 5 ∨ (8 ≤ x.op ∧ x.op ≤ 21))), decide_eq_false (by omega : ¬ (x.op = 1 ∨ x.op = 2 ∨ x.op = 23)), decide_eq_false (by omega : ¬ (x.op = 3 ∨ x.op = 4 ∨ x.op = 24)), decide_eq_false (by omega : ¬ x.op = 0), decide_eq_false (by omega : ¬ x.op = 6), decide_eq_true c, ne 0 (by omega), ne 1 (by omega), ne 2 (by omega), ne 23 (by omega), ne 3 (by omega), ne 4 (by omega), ne 24 (by omega), ne 6 (by omega), eq 7 c]
    unfold mlow_s kid0_s
    simp only [cond_true, cond_false]
    generalize out.getD (x.k 0).toNat default = g at *
    obtain ⟨lo, hi, z, e⟩ := g
    cases c2 : decide (hi > (255 : Int)) with
    | true => exact ⟨⟨0, 255, z.tmod 256, e.tmod 256⟩, tmod_U g0.2.2.1, tmod_U g0.2.2.2, (gtig_low hw g0.2.2.1 g0.2.2.2).symm, rfl⟩
    | false => exact ⟨⟨lo, hi, z.tmod 256, e.tmod 256⟩, tmod_U g0.2.2.1, tmod_U g0.2.2.2, (gtig_low hw g0.2.2.1 g0.2.2.2).symm, rfl⟩
  · right
    rw [decide_eq_false (by omega : ¬ (x.op = 5 ∨ (8 ≤ x.op ∧ x.op ≤ 21))), decide_eq_false (by omega : ¬ (x.op = 1 ∨ x.op = 2 ∨ x.op = 23)), decide_eq_false (by omega : ¬ (x.op = 3 ∨ x.op = 4 ∨ x.op = 24)), decide_eq_false (by omega : ¬ x.op = 0), decide_eq_false (by omega : ¬ x.op = 6), decide_eq_false (by omega : ¬ x.op = 7), ne 0 (by omega), ne 1 (by omega), ne 2 (by omega), ne 23 (by omega), ne 3 (by omega), ne 4 (by omega), ne 24 (by omega), ne 6 (by omega), ne 7 (by omega), eq 22 c, cho_same (l := l) hg]
    exact ⟨mcho_s l out x, (cho_rng hg).1, (cho_rng hg).2, rfl, rfl⟩
theorem kmee_fit (w : Int) {a b c e : Int} (ha : U64 a) (hb : U64 b) (hc : U64 c) (he : U64 e) : (kmee_s w a b c e).1 ≤ mask_s w := by
  obtain ⟨Z, O, e1, ok1, _⟩ := right_both w ha hb
  obtain ⟨Y, P, e2, ok2, _⟩ := right_both w hc he
  unfold kmee_s
  rw [e1, e2]
  have h0 := (mask_rng w).1
  have hor : Go.bits .or .u64 (Z : Int) (Y : Int) ≤ mask_s w := by
    rw [or_w (cw_range w).2 ok1.lz ok2.lz, mask_eq]
    have := Nat.or_lt_two_pow ok1.lz ok2.lz
    omega
  simp only []
  generalize Go.bits .or .u64 (Z : Int) (Y : Int) = q at *
  cases (Go.bits .and .u64 q (Go.bits .or .u64 (O : Int) (P : Int)) != (0 : Int)) with
  | true => exact h0
  | false => exact hor
theorem gtig_fit (w : Int) (g : Gu) (hz : U64 g.z) (he : U64 g.e) : (gtig_s w g).z ≤ mask_s w := by
  obtain ⟨Z, E, e1, ok, _⟩ := right_both w hz he
  have z64 := ok.z64 (cw_range w).2
  have o64 := ok.o64 (cw_range w).2
  have h0 := (mask_rng w).1
  unfold gtig_s gtig_c4
  rw [e1]
  generalize hlo : max (srig_s w g.lo g.hi).1 _ = lo
  generalize hhi : min (srig_s w g.lo g.hi).2 _ = hi
  cases decide (lo > hi) with
  | true => exact h0
  | false =>
    rw [cond_false]
    generalize hA : Go.bits .andNot .u64 (kof_s w lo).1 _ = A
    generalize hB : Go.bits .andNot .u64 (kof_s w lo).2 _ = B
    have rA : U64 A := hA ▸ bits_u64_rng _ _ _
    have rB : U64 B := hB ▸ bits_u64_rng _ _ _
    have f := kmee_fit w (a := (Z : Int)) (b := (E : Int)) ⟨by omega, by omega⟩ ⟨by omega, by omega⟩ rA rB
    simp only [] at *
    generalize kmee_s w (Z : Int) (E : Int) A B = k at *
    cases (!k.2.2) with
    | true => exact h0
    | false => exact f
theorem Both.same {l : List Nd} {out : List Gu} {x : Nd} (h : Both l out x) : hstep l out x = gstep l out x := by
  rcases h with ⟨a, b⟩ | ⟨g, h1, h2, a, b⟩
  · rw [a, b]
  · rw [a, b, tight_same _ _ h1 h2]
theorem Both.rng {l : List Nd} {out : List Gu} {x : Nd} (h : Both l out x) : GuR (gstep l out x) ∧ (gstep l out x).z ≤ mask_s x.w := by
  rcases h with ⟨a, _⟩ | ⟨g, h1, h2, a, _⟩
  · rw [a]; exact ⟨gu_zero, (mask_rng _).1⟩
  · rw [a]; exact ⟨gtig_rng _ _, gtig_fit _ _ h1 h2⟩
theorem fit_app {l : List Nd} {out : List Gu} {g : Gu} (hb : ∀ j, (out.getD j default).z ≤ mask_s (l.getD j default).w) (hg : g.z ≤ mask_s (l.getD out.length default).w) : ∀ j, ((out ++ [g]).getD j default).z ≤ mask_s (l.getD j default).w := by
  intro j
  by_cases c : j < out.length
  · have := hb j
    rw [List.getD_eq_getElem?_getD] at this ⊢
    rwa [List.getElem?_append_left c]
  · by_cases e : j = out.length
    · subst e
      rw [List.getD_eq_getElem?_getD, List.getElem?_append_right (Nat.le_refl _), Nat.sub_self]
      exact hg
    · have : ((out ++ [g]).getD j default) = default := by
        rw [List.getD_eq_getElem?_getD, List.getElem?_eq_none (by simp; omega)]; rfl
      rw [this]
      exact (mask_rng _).1
theorem of_l0_same {l : List Nd} (hv : NdsOk l) (hn : ∀ j, U64 (l.getD j default).n) : ∀ (m : Nat) (out : List Gu) (i : Int), 0 ≤ i → i ≤ l.length → out.length = i.toNat → (∀ j, GuR (out.getD j default)) → (∀ j, (out.getD j default).z ≤ mask_s (l.getD j default).w) → hof_l0 l m out i = sof_l0 l m out i := by
  intro m
  induction m with
  | zero => intro out i _ _ _ _ _; rfl
  | succ m ih =>
    intro out i h0 h1 ho hg hb
    rw [hof_step, sof_step]
    cases c : decide (i < (l.length : Int)) with
    | false => rfl
    | true =>
      have c := of_decide_eq_true c
      have v := hv i.toNat (by omega)
      have B := both v.op v.w7 (hn i.toNat) hg hb
      rw [B.same, cond_true, cond_true]
      exact ih _ _ (by omega) (by omega) (by rw [List.length_append]; simp; omega) (gu_app hg B.rng.1) (fit_app hb (by rw [ho]; exact B.rng.2))
theorem of_same {l : List Nd} (hn : ∀ j, U64 (l.getD j default).n) : hof_s l = sof_s l := by
  unfold hof_s sof_s
  rw [chk_same hn]
  cases c : ((tchk_s l).1 != (0 : Int)) with
  | true => rfl
  | false => exact of_l0_same (nds_of_chk (by simpa using c)).1 hn _ _ _ (by omega) (by omega) rfl gu_nil (fun j => (mask_rng _).1)
theorem dec_same {l : List Nd} (hn : ∀ j, U64 (l.getD j default).n) : hdec_s l = sdec_s l := by
  unfold hdec_s sdec_s
  rw [of_same hn]
theorem lSke_l0_true {l : List Nd} (hn : ∀ j, U64 (l.getD j default).n) : ∀ (m : Nat) (i : Int), 0 ≤ i → (sof_s ([] ++ l)).1.length - i.toNat < m → lSke_l0 l m i = true := by
  intro m
  induction m with
  | zero => intro i _ h; omega
  | succ m ih =>
    intro i h0 hm
    rw [lSke_l0, of_same hn, List.nil_append]
    rw [List.nil_append] at hm ih
    cases c : decide (i < ((sof_s l).1.length : Int)) with
    | false => rfl
    | true =>
      have c := of_decide_eq_true c
      simp only [beq_self_eq_true, Bool.and_self, Bool.not_true, cond_true, cond_false]
      exact ih (i + 1) (by omega) (by omega)
theorem lSke_t {l : List Nd} (hn : ∀ j, U64 (l.getD j default).n) : lSke_s l = true := by
  have k := lSke_l0_true hn ((sof_s ([] ++ l)).1.length - ((0) : Int).toNat + 1) 0 (by omega) (Nat.lt_succ_self _)
  unfold lSke_s
  rw [k, of_same hn, dec_same hn, List.nil_append]
  simp only [bne_self_eq_false, cond_false]
  cases decide ((l.length : Int) > (300 : Int)) <;> rfl
end Go.Proofs.YtdfifogicefkjaaGreatDoor.Sx.M5
/- The law SketchTells as a contract over what is handed over. -/
open Go Go.Proofs Go.RowKit Go.ChangeShapes Go.WideShapes
namespace Go.Proofs.YtdfifogicefkjaaGreatDoor.Sx.M5
set_option linter.unusedVariables false
set_option linter.unusedSimpArgs false
theorem u64_of_wf {x : Int} (h : (Lit.int .u64 x).wf = true) : 0 ≤ x ∧ x < 18446744073709551616 := by
  simp [Lit.wf, IntKind.min, IntKind.max, IntKind.signed, IntKind.bits] at h
  omega
/-- A node out of its numbers. -/
def mkN (ns : List Int) : Nd := match ns with
  | [a, b, c, x, y, z] => ⟨a, b, c, fun j => if j = 0 then x else if j = 1 then y else z⟩
  | _ => default
section
variable {H : Type} {enc : TypeId × Value → H} {w : World} {base : Nat} {spare : Nat → Bool} {held : Bool}
theorem open_nodes {a : Option Addr} {len cap : Nat} {d : DataW H} {p : List MemPlace} (h : DataW.Trod enc Tryz.prog w base spare held 22 (.slice a len cap) d p) : ∃ l : List Nd, (∀ j, U64 (l.getD j default).n) ∧ ∀ ρ, Rep ρ (fun b => w.heap[b]?) (.ro 6 l.length (l.map eNd)) (.slice a len cap) := by
  obtain ⟨fuel, h⟩ := h
  have h : DataW.trod enc Tryz.prog w base spare held fuel 22 [.slice a len cap] = some (d, p) := by simpa [Value.cells] using h
  obtain ⟨rows, h1, h2, h3, h4⟩ := open_ro (n := 8) (ks := [.i64, .i64, .u64, .i64, .i64, .i64]) Tryz.underlying22 (by kernel_rfl) (by kernel_rfl) (by decide) h
  refine ⟨rows.map mkN, fun j => ?_, fun ρ => ?_⟩
  · by_cases c : j < (rows.map mkN).length
    · rw [List.getD_eq_getElem?_getD, List.getElem?_eq_getElem c]
      have hm : (rows.map mkN)[j] ∈ rows.map mkN := List.getElem_mem c
      generalize (rows.map mkN)[j] = y at *
      obtain ⟨ns, hns, rfl⟩ := List.mem_map.1 hm
      obtain ⟨hn, hw⟩ := h1 ns hns
      match ns, hn, hw with
      | [a, b, c, x, y, z], _, hw => exact u64_of_wf hw.2.2.1
    · rw [List.getD_eq_getElem?_getD, List.getElem?_eq_none (by omega)]
      exact zero_U
  · have := h4 ρ
    rw [List.length_map, List.map_map]
    rwa [show rows.map (cells [.i64, .i64, .u64, .i64, .i64, .i64]) = rows.map (eNd ∘ mkN) from List.map_congr_left fun ns hns => by
      match ns, (h1 ns hns).1 with
      | [a, b, c, x, y, z], _ => rfl] at this
end
theorem lSke_true (l : List Nd) (hn : ∀ j, U64 (l.getD j default).n) : Ok Tryz.prog 3 [.ro 6 l.length (l.map eNd)] (look []) (.v (.bool true)) (postOf [] []) := by
  have := lSke_ok l hn
  rwa [lSke_t hn] at this
end Go.Proofs.YtdfifogicefkjaaGreatDoor.Sx.M5
/- The row's condition: the library's table lies in its variable; a world in which it does. -/
open Go Go.Proofs Go.RowKit Go.ChangeShapes Go.WideShapes
namespace Go.Proofs.YtdfifogicefkjaaGreatDoor.Sx.M5
set_option linter.unusedVariables false
set_option linter.unusedSimpArgs false
theorem gTab : Tryz.prog.globalNamed "math/bits.deBruijn64tab" = some 0 := by kernel_rfl
theorem gTabType : (Tryz.prog.globals[0]?).map (·.type) = some 150 := by kernel_rfl
theorem laid_tab : YtdfifogicefkjaaGreatDoor.Rows.laid_math_bits_deBruijn64tab = (Lib.tabData .u8 (Lib.deBruijn64tab.map fun n : Nat => (n : Int)) : DataW Unit) := by kernel_rfl
theorem tab_of_laid {W : World} (h : laidMetH Tryz.prog [("math/bits.deBruijn64tab", YtdfifogicefkjaaGreatDoor.Rows.laid_math_bits_deBruijn64tab)] W) : GG (fun b => W.heap[b]?) := by
  have h1 : laidMet Tryz.prog [("math/bits.deBruijn64tab", YtdfifogicefkjaaGreatDoor.Rows.laid_math_bits_deBruijn64tab)] W := (laidMetH_iff.1 h).1
  obtain ⟨g, t, cs, fuel, p, e1, e2, e3, e4⟩ := Lib.laidMet.reads h1 (.head _)
  obtain rfl := Option.some.inj (gTab.symm.trans e1)
  obtain rfl := Option.some.inj (gTabType.symm.trans e2)
  rw [laid_tab] at e4
  have hc := Lib.cells_of_tab Tryz.underlying150 Tryz.underlying5 (by kernel_rfl) (by kernel_rfl) e4
  unfold World.var? at e3
  rw [gTab] at e3
  simp only [Option.bind_some] at e3
  cases ho : W.heap[0]? with
  | none => rw [ho] at e3; cases e3
  | some o =>
    rw [ho] at e3
    cases o with
    | cells cs' t' f' =>
      obtain rfl := Option.some.inj e3
      refine ⟨_, _, _, ho, fun j hj => ?_⟩
      rw [← Array.getElem?_toList, hc]
      simp only [List.getElem?_map]
      have hl : Lib.deBruijn64tab.length = 64 := by decide
      rw [List.getElem?_eq_getElem (by omega), List.getD_eq_getElem?_getD, List.getElem?_eq_getElem (by omega)]
      rfl
    | _ => cases e3
noncomputable def laidWorld (os : Os) : World :=
  let w0 := World.holding Tryz.prog os ⟨#[], #[], []⟩
  { w0 with heap := w0.heap.modify 0 fun
      | .cells _ t frozen => .cells (Lib.deBruijn64tab.map fun z : Nat => Value.int .u8 (z : Int)).toArray t frozen
      | o => o }
theorem laid_met (os : Os) (args : Array Value) : laidMetH Tryz.prog [("math/bits.deBruijn64tab", YtdfifogicefkjaaGreatDoor.Rows.laid_math_bits_deBruijn64tab)] ((laidWorld os).forCall (fun _ _ => 0) ⟨#[], args, []⟩).memory :=
  laidMetH_of_parts (LaidIn.of_run [0] 8 (by kernel_rfl) (by kernel_rfl) (by kernel_rfl) (by kernel_rfl)).met (by kernel_rfl)
end Go.Proofs.YtdfifogicefkjaaGreatDoor.Sx.M5
