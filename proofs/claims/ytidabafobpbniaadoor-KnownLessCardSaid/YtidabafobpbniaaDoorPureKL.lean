/- Known bits, the plain law: KnownLess: of less that is known no more is told. -/
import Derived.Test.YtidabafobpbniaaDoorPureKS
import Derived.Test.YtidabafobpbniaaDoorPureKA
import Derived.Test.YtidabafobpbniaaDoorPx15
namespace Go.Proofs.YtidabafobpbniaaDoor.Pure
open Go.RowKit Go.Proofs.YtidabafobpbniaaDoor.P Go.Proofs.YtidabafobpbniaaDoorW.PrintWords Go.Proofs.YtidabafobpbniaaDoorW.PrintLast Go.Proofs.YtidabafobpbniaaDoorW.PrintMore
set_option linter.unusedVariables false
set_option linter.unusedSimpArgs false

theorem sub_refl (x : Nat × Nat) : Sub x x := fun i => ⟨id, id⟩
theorem sub_zero (x : Nat × Nat) : Sub (0, 0) x := fun i => ⟨fun h => by simp at h, fun h => by simp at h⟩
theorem sub_all {x' x : Nat × Nat} (s : Sub x' x) {i : Nat} (h : (allK x').testBit i = true) : (allK x).testBit i = true := by
  unfold allK at *
  rw [Nat.testBit_or, Bool.or_eq_true] at *
  exact h.imp (s i).1 (s i).2
theorem sub_bit {x' x : Nat × Nat} (o : x.1 &&& x.2 = 0) (s : Sub x' x) {i : Nat} (h : (allK x').testBit i = true) : x'.2.testBit i = x.2.testBit i := by
  unfold allK at h
  rw [Nat.testBit_or, Bool.or_eq_true] at h
  rcases h with h | h
  · have := (and0_iff _ _).1 o i ((s i).1 h)
    rw [this]
    cases c : x'.2.testBit i
    · rfl
    · rw [(s i).2 c] at this; cases this
  · rw [h, (s i).2 h]
theorem low_sub {x' x : Nat × Nat} (h1 : x'.1 < 2 ^ 64) (h2 : x'.2 < 2 ^ 64) (h3 : x.1 < 2 ^ 64) (h4 : x.2 < 2 ^ 64) (s : Sub x' x) {n : Nat} (hn : n ≤ lowK x') (h64 : n ≤ 64) : n ≤ lowK x := by
  rcases Nat.lt_or_ge (lowK x) n with c | c
  · have e := (low_spec h1 h2).1 (lowK x) (by omega)
    have f := (low_spec h3 h4).2 (by omega)
    have := sub_all s e
    unfold allK at this
    rw [f] at this
    cases this
  · exact c
theorem sub_mod {x' x : Nat × Nat} (h1 : x'.1 < 2 ^ 64) (h2 : x'.2 < 2 ^ 64) (o : x.1 &&& x.2 = 0) (s : Sub x' x) {n : Nat} (hn : n ≤ lowK x') : x'.2 % 2 ^ n = x.2 % 2 ^ n := by
  apply Nat.eq_of_testBit_eq
  intro i
  rw [Nat.testBit_mod_two_pow, Nat.testBit_mod_two_pow]
  by_cases c : i < n
  · rw [sub_bit o s (show (allK x').testBit i = true from (low_spec h1 h2).1 i (by omega))]
  · rw [decide_eq_false c]; rfl
theorem of_sub {n' n u' u : Nat} (h : n' ≤ n) (lu' : u' < 2 ^ n') (lu : u < 2 ^ n) (e : u % 2 ^ n' = u') : Sub (ofK n' u') (ofK n u) := by
  unfold ofK
  rw [Nat.mod_eq_of_lt lu', Nat.mod_eq_of_lt lu]
  have b : ∀ i, u'.testBit i = (decide (i < n') && u.testBit i) := fun i => by rw [← e, Nat.testBit_mod_two_pow]
  intro i
  simp only
  rw [of_bits lu', of_bits lu, b]
  simp only [Bool.and_eq_true, decide_eq_true_eq, Bool.not_eq_true', Bool.and_eq_false_iff, decide_eq_false_iff_not]
  refine ⟨fun q => ⟨by omega, ?_⟩, fun q => q.2⟩
  rcases q.2 with r | r
  · omega
  · exact r
theorem sums_sub {op : Int} (ho : op = 8 ∨ op = 9 ∨ op = 10) {W : Nat} (h1 : 1 ≤ W) (hW : W ≤ 64) {x y x' y' : Nat × Nat} (hx : OkK W x) (hy : OkK W y) (hx' : OkK W x') (hy' : OkK W y') (sx : Sub x' x) (sy : Sub y' y) : Sub (sumsK op W x' y') (sumsK op W x y) := by
  have ox := ok_lt64 hW hx
  have oy := ok_lt64 hW hy
  have ox' := ok_lt64 hW hx'
  have oy' := ok_lt64 hW hy'
  unfold sumsK
  have m1 : min (min (lowK x') (lowK y')) W ≤ lowK x' := by omega
  have m2 : min (min (lowK x') (lowK y')) W ≤ lowK y' := by omega
  have m3 : min (min (lowK x') (lowK y')) W ≤ W := by omega
  have n1 := low_sub ox'.1 ox'.2 ox.1 ox.2 sx m1 (by omega)
  have n2 := low_sub oy'.1 oy'.2 oy.1 oy.2 sy m2 (by omega)
  have hn : min (min (lowK x') (lowK y')) W ≤ min (min (lowK x) (lowK y)) W := by omega
  generalize min (min (lowK x') (lowK y')) W = n' at *
  generalize min (min (lowK x) (lowK y)) W = n at *
  by_cases c : n' = 0
  · rw [if_pos c]; exact sub_zero _
  · rw [if_neg c, if_neg (by omega)]
    have pn : 0 < 2 ^ n := Nat.pow_pos (by decide)
    have pn' : 0 < 2 ^ n' := Nat.pow_pos (by decide)
    refine of_sub hn (apply_lt op (by omega) (Nat.mod_lt _ pn') (Nat.mod_lt _ pn')) (apply_lt op (by omega) (Nat.mod_lt _ pn) (Nat.mod_lt _ pn)) ?_
    rw [apply_low ho hn (Nat.mod_lt _ pn), Nat.mod_mod_of_dvd _ (Nat.pow_dvd_pow 2 hn), Nat.mod_mod_of_dvd _ (Nat.pow_dvd_pow 2 hn), sub_mod ox'.1 ox'.2 hx.2.2 sx m1, sub_mod oy'.1 oy'.2 hy.2.2 sy m2]
theorem down_sub (W : Nat) {x' x : Nat × Nat} (s : Sub x' x) (n : Nat) : Sub (downK W x' n) (downK W x n) := by
  unfold downK
  intro i
  simp only [Nat.testBit_or, Bool.or_eq_true, div_bit]
  exact ⟨fun h => h.imp (s _).1 id, (s _).2⟩
theorem sign_sub (W : Nat) {x' x : Nat × Nat} (o : x.1 &&& x.2 = 0) (s : Sub x' x) (n : Nat) : Sub (signK W x' n) (signK W x n) := by
  unfold signK
  simp only [and_top]
  cases c' : x'.1.testBit (W - 1)
  · simp only [if_true]
    cases d' : x'.2.testBit (W - 1)
    · simp only [if_true]
      cases c : x.1.testBit (W - 1)
      · simp only [if_true]
        cases d : x.2.testBit (W - 1)
        · simp only [if_true]
          intro i; simp only [div_bit]; exact ⟨(s _).1, (s _).2⟩
        · simp only [Bool.true_eq_false, if_false]
          intro i; simp only [div_bit, Nat.testBit_or, Bool.or_eq_true]; exact ⟨(s _).1, fun h => .inl ((s _).2 h)⟩
      · simp only [Bool.true_eq_false, if_false]
        intro i; simp only [div_bit, Nat.testBit_or, Bool.or_eq_true]; exact ⟨fun h => .inl ((s _).1 h), (s _).2⟩
    · have d := (s _).2 d'
      have c : x.1.testBit (W - 1) = false := by
        cases c : x.1.testBit (W - 1)
        · rfl
        · rw [(and0_iff _ _).1 o _ c] at d; cases d
      rw [c, d]
      simp only [Bool.true_eq_false, if_false, if_true]
      intro i; simp only [div_bit, Nat.testBit_or, Bool.or_eq_true]; exact ⟨(s _).1, fun h => h.imp (s _).2 id⟩
  · rw [(s _).1 c']
    simp only [Bool.true_eq_false, if_false]
    intro i; simp only [div_bit, Nat.testBit_or, Bool.or_eq_true]; exact ⟨fun h => h.imp (s _).1 id, (s _).2⟩
theorem up_sub {W : Nat} (hW : W ≤ 64) {x' x : Nat × Nat} (o : x.1 &&& x.2 = 0) (s : Sub x' x) (n : Nat) : Sub (upK W x' n) (upK W x n) := by
  have z : (x.1 * 2 ^ n % 2 ^ 64 ||| (2 ^ n - 1)) % 2 ^ W &&& x.2 * 2 ^ n % 2 ^ 64 % 2 ^ W = 0 := by
    rw [and0_iff]
    intro i hi
    rw [(up_bits hW x n i).1] at hi
    rw [(up_bits hW x n i).2]
    simp only [Bool.and_eq_true, decide_eq_true_eq, Bool.or_eq_true] at hi
    rcases hi.2 with q | q
    · rw [(and0_iff _ _).1 o _ q.2, Bool.and_false, Bool.and_false]
    · rw [decide_eq_false (show ¬ n ≤ i by omega), Bool.false_and, Bool.and_false]
  unfold upK rightK
  rw [if_pos z]
  split
  · intro i
    simp only
    rw [(up_bits hW x n i).1, (up_bits hW x n i).2, (up_bits hW x' n i).1, (up_bits hW x' n i).2]
    simp only [Bool.and_eq_true, Bool.or_eq_true, decide_eq_true_eq]
    exact ⟨fun h => ⟨h.1, h.2.imp (fun q => ⟨q.1, (s _).1 q.2⟩) id⟩, fun h => ⟨h.1, h.2.1, (s _).2 h.2.2⟩⟩
  · exact sub_zero _
theorem num_sub {W : Nat} {y' y : Nat × Nat} (hy' : OkK W y') (hy : OkK W y) (s : Sub y' y) (h : (numK W y').2 = true) : y' = y := by
  have e := (num_is hy' h).2
  have f : Fits y' y.2 := fits_sub s (self_fits hy)
  rw [e] at f
  have e2 : y.2 = y'.2 := (of_fits hy'.2.1 hy.2.1).1 f
  have e1 : y'.1 = 2 ^ W - 1 - y'.2 := by
    have := congrArg Prod.fst e
    unfold ofK at this
    rw [Nat.mod_eq_of_lt hy'.2.1] at this
    exact this
  have e3 : y'.1 = y.1 := by
    apply Nat.eq_of_testBit_eq
    intro i
    cases c : y.1.testBit i
    · cases d : y'.1.testBit i
      · rfl
      · rw [(s i).1 d] at c; cases c
    · rw [e1, of_bits hy'.2.1, decide_eq_true (bit_lt hy.1 c), ← e2, (and0_iff _ _).1 hy.2.2 i c]; rfl
  exact Prod.ext e3 e2.symm
theorem moved_sub {op : Int} {W : Nat} (h1 : 1 ≤ W) (hW : W ≤ 64) {x y x' y' : Nat × Nat} (hx : OkK W x) (hy : OkK W y) (hx' : OkK W x') (hy' : OkK W y') (sx : Sub x' x) (sy : Sub y' y) : Sub (movedK op W x' y') (movedK op W x y) := by
  unfold movedK
  cases c : (numK W y').2
  · simp only [if_true]; exact sub_zero _
  · have e := num_sub hy' hy sy c
    subst e
    rw [c]
    simp only [Bool.true_eq_false, if_false]
    split
    · split
      · exact sign_sub W hx.2.2 sx _
      · exact sign_sub W hx.2.2 sx _
    · split
      · exact sub_refl _
      · split
        · exact up_sub hW hx.2.2 sx _
        · exact down_sub W sx _
theorem and_ne_sub {a' b' a b : Nat} (h : a' &&& b' ≠ 0) (ha : ∀ i, a'.testBit i = true → a.testBit i = true) (hb : ∀ i, b'.testBit i = true → b.testBit i = true) : a &&& b ≠ 0 := by
  intro z
  apply h
  rw [and0_iff] at z ⊢
  intro i hi
  cases c : b'.testBit i
  · rfl
  · have := z i (ha i hi); rw [hb i c] at this; cases this
theorem table_sub {op : Int} {W : Nat} (h1 : 1 ≤ W) (hW : W ≤ 64) {x y x' y' : Nat × Nat} (hx : OkK W x) (hy : OkK W y) (hx' : OkK W x') (hy' : OkK W y') (sx : Sub x' x) (sy : Sub y' y) : Sub (tableK op W x' y') (tableK op W x y) := by
  unfold tableK
  by_cases c5 : op = 5
  · rw [if_pos c5, if_pos c5]; exact fun i => ⟨(sx i).2, (sx i).1⟩
  rw [if_neg c5, if_neg c5]
  by_cases c13 : op = 13
  · rw [if_pos c13, if_pos c13]
    intro i
    simp only [Nat.testBit_or, Nat.testBit_and, Bool.or_eq_true, Bool.and_eq_true]
    exact ⟨fun h => h.imp (sx i).1 (sy i).1, fun h => ⟨(sx i).2 h.1, (sy i).2 h.2⟩⟩
  rw [if_neg c13, if_neg c13]
  by_cases c14 : op = 14
  · rw [if_pos c14, if_pos c14]
    intro i
    simp only [Nat.testBit_or, Nat.testBit_and, Bool.or_eq_true, Bool.and_eq_true]
    exact ⟨fun h => ⟨(sx i).1 h.1, (sy i).1 h.2⟩, fun h => h.imp (sx i).2 (sy i).2⟩
  rw [if_neg c14, if_neg c14]
  by_cases c15 : op = 15
  · rw [if_pos c15, if_pos c15]
    have b64 : ∀ {u v : Nat × Nat}, OkK W u → OkK W v → (u.2 ^^^ v.2) &&& allK u &&& allK v < 2 ^ 64 := fun hu hv =>
      Nat.lt_of_lt_of_le (Nat.lt_of_le_of_lt Nat.and_le_left (Nat.lt_of_le_of_lt Nat.and_le_left (Nat.xor_lt_two_pow hu.2.1 hv.2.1))) (pow_le64 hW)
    intro i
    simp only [Nat.testBit_and, of_bits (b64 hx hy), of_bits (b64 hx' hy'), Bool.and_eq_true, Bool.not_eq_true', Nat.testBit_xor]
    refine ⟨fun h => ?_, fun h => ?_⟩
    · obtain ⟨⟨q1, q2⟩, q3, q4⟩ := h
      rw [q1, q2, Bool.and_true, Bool.and_true, sub_bit hx.2.2 sx q1, sub_bit hy.2.2 sy q2] at q4
      have r1 := sub_all sx q1
      have r2 := sub_all sy q2
      exact ⟨⟨r1, r2⟩, q3, by rw [r1, r2, Bool.and_true, Bool.and_true, q4]⟩
    · obtain ⟨⟨q3, q1⟩, q2⟩ := h
      rw [sub_bit hx.2.2 sx q1, sub_bit hy.2.2 sy q2] at q3
      exact ⟨⟨q3, sub_all sx q1⟩, sub_all sy q2⟩
  rw [if_neg c15, if_neg c15]
  by_cases cs : op = 8 ∨ op = 9 ∨ op = 10
  · rw [if_pos cs, if_pos cs]; exact sums_sub cs h1 hW hx hy hx' hy' sx sy
  rw [if_neg cs, if_neg cs]
  by_cases cm : op = 16 ∨ op = 17 ∨ op = 18
  · rw [if_pos cm, if_pos cm]; exact moved_sub h1 hW hx hy hx' hy' sx sy
  rw [if_neg cm, if_neg cm]
  by_cases c19 : op = 19
  · rw [if_pos c19, if_pos c19]
    by_cases d' : x'.2 &&& y'.1 = 0
    · rw [if_pos d']
      by_cases e' : x'.1 &&& y'.2 = 0
      · rw [if_pos e']; exact sub_zero _
      · rw [if_neg e']
        have := and_ne_sub e' (fun i => (sx i).1) (fun i => (sy i).2)
        by_cases d : x.2 &&& y.1 = 0
        · rw [if_pos d, if_neg this]; exact sub_refl _
        · rw [if_neg d]; exact sub_refl _
    · rw [if_neg d', if_neg (and_ne_sub d' (fun i => (sx i).2) (fun i => (sy i).1))]; exact sub_refl _
  · rw [if_neg c19, if_neg c19]; exact sub_refl _
theorem sub_of_fits {V : Nat} {t : Nat × Nat} {v : Nat} (h1 : t.1 < 2 ^ V) (h2 : t.2 < 2 ^ V) (lv : v < 2 ^ V) (f : Fits t v) : Sub t (ofK V v) := by
  unfold ofK
  rw [Nat.mod_eq_of_lt lv]
  intro i
  refine ⟨fun h => ?_, fun h => (f i).2 h⟩
  simp only
  rw [of_bits lv, (f i).1 h, decide_eq_true (bit_lt h1 h)]; rfl
theorem apply_ansL (op : Int) {W a b : Nat} (h1 : 1 ≤ W) (la : a < 2 ^ W) (lb : b < 2 ^ W) : applyN op W a b < 2 ^ ansK op W := by
  unfold ansK
  by_cases c : op ≥ 19
  · rw [if_pos c]
    have : applyN op W a b = 0 ∨ applyN op W a b = 1 := by
      unfold applyN
      repeat rw [if_neg (by omega)]
      split
      · split
        · exact .inr rfl
        · exact .inl rfl
      · split
        · split
          · exact .inr rfl
          · exact .inl rfl
        · split
          · split
            · exact .inr rfl
            · exact .inl rfl
          · exact .inl rfl
    omega
  · rw [if_neg c]; exact apply_lt op h1 la lb
/-- Of less that is known, no more is told. -/
theorem kapply_sub (op : Int) {W : Nat} (h1 : 1 ≤ W) (hW : W ≤ 64) {x y x' y' : Nat × Nat} (sx : Sub (rightK W x') (rightK W x)) (sy : Sub (rightK W y') (rightK W y)) : Sub (kapplyK op W x' y') (kapplyK op W x y) := by
  have hx := right_okK W x
  have hy := right_okK W y
  have hx' := right_okK W x'
  have hy' := right_okK W y'
  have numr : ∀ z : Nat × Nat, numK W (rightK W z) = numK W z := fun z => by unfold numK; rw [right_ofK (right_okK W z)]
  unfold kapplyK
  by_cases ho : isOpK op
  · rw [if_pos ho, if_pos ho]
    by_cases c' : (numK W x').2 = true ∧ ((numK W y').2 = true ∨ op = 5)
    · have ex := num_sub hx' hx sx (by rw [numr]; exact c'.1)
      have nx : numK W x' = numK W x := by rw [← numr x', ex, numr]
      have e : (numK W x).2 = true ∧ ((numK W y).2 = true ∨ op = 5) ∧ applyN op W (numK W x').1 (numK W y').1 = applyN op W (numK W x).1 (numK W y).1 := by
        refine ⟨by rw [← nx]; exact c'.1, ?_⟩
        rcases c'.2 with d | d
        · have ey := num_sub hy' hy sy (by rw [numr]; exact d)
          have ny : numK W y' = numK W y := by rw [← numr y', ey, numr]
          exact ⟨.inl (by rw [← ny]; exact d), by rw [nx, ny]⟩
        · exact ⟨.inr d, by rw [nx, d]; simp [applyN]⟩
      rw [if_pos c', if_pos ⟨e.1, e.2.1⟩, e.2.2]
      exact sub_refl _
    · rw [if_neg c']
      by_cases c : (numK W x).2 = true ∧ ((numK W y).2 = true ∨ op = 5)
      · rw [if_pos c]
        have ix := num_is hx (by rw [numr]; exact c.1)
        rw [numr] at ix
        have fx : Fits (rightK W x') (numK W x).1 := by rw [ix.1]; exact fits_sub sx (self_fits hx)
        have lx := num_lt W x
        have ly := num_lt W y
        rcases c.2 with d | d
        · have iy := num_is hy (by rw [numr]; exact d)
          rw [numr] at iy
          have fy : Fits (rightK W y') (numK W y).1 := by rw [iy.1]; exact fits_sub sy (self_fits hy)
          have t := table_fits ho h1 hW hx' hy' lx ly fx fy
          exact sub_of_fits t.1 t.2.1 (apply_ansL op h1 lx ly) t.2.2
        · have t := table_fits ho h1 hW hx' hy' lx hy'.2.1 fx (self_fits hy')
          have e : applyN op W (numK W x).1 (rightK W y').2 = applyN op W (numK W x).1 (numK W y).1 := by rw [d]; simp [applyN]
          rw [e] at t
          exact sub_of_fits t.1 t.2.1 (apply_ansL op h1 lx ly) t.2.2
      · rw [if_neg c]
        exact table_sub h1 hW hx hy hx' hy' sx sy
  · rw [if_neg ho, if_neg ho]; exact sub_refl _
theorem kapply_lt (op : Int) {W : Nat} (h1 : 1 ≤ W) (hW : W ≤ 64) (x y : Nat × Nat) : (kapplyK op W x y).1 < 2 ^ 64 ∧ (kapplyK op W x y).2 < 2 ^ 64 := by
  have va : ansK op W ≤ 64 := by unfold ansK; split <;> omega
  have hx := right_okK W x
  have hy := right_okK W y
  unfold kapplyK
  by_cases ho : isOpK op
  · rw [if_pos ho]
    split
    · exact ok_lt64 va (of_okK _ _)
    · have t := table_fits ho h1 hW hx hy hx.2.1 hy.2.1 (self_fits hx) (self_fits hy)
      exact ⟨lt_pow t.1 va, lt_pow t.2.1 va⟩
  · rw [if_neg ho]; exact ⟨by decide, by decide⟩
theorem andNot_sub {x' x : Nat × Nat} (s : Sub x' x) (h1 : x'.1 < 2 ^ 64) (h2 : x'.2 < 2 ^ 64) (h3 : x.1 < 2 ^ 64) (h4 : x.2 < 2 ^ 64) : Go.bits .andNot .u64 (x'.1 : Int) (x.1 : Int) = 0 ∧ Go.bits .andNot .u64 (x'.2 : Int) (x.2 : Int) = 0 := by
  rw [andNot_nat _ _ h1 h3, andNot_nat _ _ h2 h4, (andNot0_iff _ _ h1 h3).2 (fun i => (s i).1), (andNot0_iff _ _ h2 h4).2 (fun i => (s i).2)]
  exact ⟨rfl, rfl⟩
theorem KnownLess_row (a0 : Int) (a1 : Int) (a2_0 a2_1 : Int) (a3_0 a3_1 : Int) (a4_0 a4_1 : Int) (h0_ : (Lit.int .i64 a0).wf = true) (h1_ : (Lit.int .i64 a1).wf = true) (h2_ : (Lit.int .u64 a2_0).wf = true) (h3_ : (Lit.int .u64 a2_1).wf = true) (h4_ : (Lit.int .u64 a3_0).wf = true) (h5_ : (Lit.int .u64 a3_1).wf = true) (h6_ : (Lit.int .u64 a4_0).wf = true) (h7_ : (Lit.int .u64 a4_1).wf = true) : ∃ k, backreachlaw12_KnownLess.f k a0 a1 a2_0 a2_1 a3_0 a3_1 a4_0 a4_1 = some true := by
  obtain ⟨x0, rfl, l0⟩ := nat_of_wf h2_
  obtain ⟨x1, rfl, l1⟩ := nat_of_wf h3_
  obtain ⟨y0, rfl, l2⟩ := nat_of_wf h4_
  obtain ⟨y1, rfl, l3⟩ := nat_of_wf h5_
  obtain ⟨z0, rfl, l4⟩ := nat_of_wf h6_
  obtain ⟨z1, rfl, l5⟩ := nat_of_wf h7_
  have hr := cw_range a1
  refine ⟨12, ?_⟩
  have oJ := ok_lt64 hr.2 (join_okK (cw a1) (x0, x1) (z0, z1))
  have jn := join_eqK a1 (x0, x1) (z0, z1) l0 l1 l4 l5
  have e1 := kapply_eq 8 a0 a1 (joinK (cw a1) (x0, x1) (z0, z1)) (y0, y1) oJ.1 oJ.2 l2 l3
  have e2 := kapply_eq 8 a0 a1 (x0, x1) (y0, y1) l0 l1 l2 l3
  have e3 := kapply_eq 8 a0 a1 (y0, y1) (joinK (cw a1) (x0, x1) (z0, z1)) l2 l3 oJ.1 oJ.2
  have e4 := kapply_eq 8 a0 a1 (y0, y1) (x0, x1) l2 l3 l0 l1
  have sj : Sub (rightK (cw a1) (joinK (cw a1) (x0, x1) (z0, z1))) (rightK (cw a1) (x0, x1)) := by
    rw [right_ofK (join_okK _ _ _)]
    exact (join_sub (cw a1) (x0, x1) (z0, z1)).1
  have s1 := kapply_sub a0 hr.1 hr.2 sj (sub_refl (rightK (cw a1) (y0, y1)))
  have s2 := kapply_sub a0 hr.1 hr.2 (sub_refl (rightK (cw a1) (y0, y1))) sj
  have b1 := kapply_lt a0 hr.1 hr.2 (joinK (cw a1) (x0, x1) (z0, z1)) (y0, y1)
  have b2 := kapply_lt a0 hr.1 hr.2 (x0, x1) (y0, y1)
  have b3 := kapply_lt a0 hr.1 hr.2 (y0, y1) (joinK (cw a1) (x0, x1) (z0, z1))
  have b4 := kapply_lt a0 hr.1 hr.2 (y0, y1) (x0, x1)
  have z1_ := andNot_sub s1 b1.1 b1.2 b2.1 b2.2
  have z2_ := andNot_sub s2 b3.1 b3.2 b4.1 b4.2
  generalize joinK (cw a1) (x0, x1) (z0, z1) = J at *
  generalize kapplyK a0 (cw a1) J (y0, y1) = A at *
  generalize kapplyK a0 (cw a1) (x0, x1) (y0, y1) = B at *
  generalize kapplyK a0 (cw a1) (y0, y1) J = C at *
  generalize kapplyK a0 (cw a1) (y0, y1) (x0, x1) = D at *
  simp only at jn e1 e2 e3 e4
  have e1' : known_Apply.f 12 a0 a1 (KZ J).1 (KZ J).2 (y0 : Int) (y1 : Int) = some (KZ A) := e1
  have e2' : known_Apply.f 12 a0 a1 (x0 : Int) (x1 : Int) (y0 : Int) (y1 : Int) = some (KZ B) := e2
  have e3' : known_Apply.f 12 a0 a1 (y0 : Int) (y1 : Int) (KZ J).1 (KZ J).2 = some (KZ C) := e3
  have e4' : known_Apply.f 12 a0 a1 (y0 : Int) (y1 : Int) (x0 : Int) (x1 : Int) = some (KZ D) := e4
  unfold backreachlaw12_KnownLess.f
  rw [awake_eqK 0]
  simp only [Option.bind_some, if_true]
  rw [jn]
  simp only [Option.bind_some]
  rw [e1', e2', e3', e4']
  simp only [Option.bind_some]
  rw [if_pos (show Go.bits .andNot .u64 (KZ A).1 (KZ B).1 = 0 from z1_.1), if_pos (show Go.bits .andNot .u64 (KZ A).2 (KZ B).2 = 0 from z1_.2), if_pos (show Go.bits .andNot .u64 (KZ C).1 (KZ D).1 = 0 from z2_.1), show Go.bits .andNot .u64 (KZ C).2 (KZ D).2 = 0 from z2_.2]
  rfl
end Go.Proofs.YtidabafobpbniaaDoor.Pure
