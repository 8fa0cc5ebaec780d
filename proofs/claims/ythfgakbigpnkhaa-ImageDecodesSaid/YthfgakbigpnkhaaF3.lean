/- What an image's bytes are; like images. -/
import Derived.Test.YthfgakbigpnkhaaP1
open Go Go.Proofs Go.RowKit
namespace Go.Proofs.Ythfgakbigpnkhaa.Sx.C3
set_option linter.unusedVariables false
set_option linter.unusedSimpArgs false
/-! an instruction's bytes -/
theorem okR_range {h : Bool} {n : Int} (e : okR h n = true) : 0 ≤ n ∧ n ≤ 7 := by
  unfold okR at e
  cases h with
  | true =>
    rcases bifT (show (bif decide (n ≥ 0) then decide (n < 8) else false) = true from e) with ⟨h1, h2⟩ | ⟨_, h2⟩
    · have h1 := of_decide_eq_true h1
      have h2 := of_decide_eq_true h2
      omega
    · cases h2
  | false =>
    have : n = 0 := by simpa using e
    omega
theorem okC_range {op c : Int} (e : okC op c = true) : 0 ≤ c ∧ c ≤ 8 := by
  unfold okC at e
  rcases bifT e with ⟨_, e⟩ | ⟨_, e⟩
  · unfold wideB at e
    simp only [Bool.or_eq_true, beq_iff_eq] at e
    omega
  · have := okR_range e; omega
/-- An instruction that is right. -/
def InsR (i : Ins) : Prop := (putS i).2 = 0
theorem putR_ok {i : Ins} (h : InsR i) : known_s i.op = true ∧ (W i == 0) = true := by
  unfold InsR putS at h
  cases h1 : known_s i.op with
  | false => rw [h1] at h; exact absurd (show (4 : Int) = 0 from h) (by decide)
  | true =>
    cases h2 : (W i == (0 : Int)) with
    | false => rw [h1, h2] at h; exact absurd (show (5 : Int) = 0 from h) (by decide)
    | true => exact ⟨rfl, rfl⟩
theorem put_parts {i : Ins} (h : InsR i) : putS i = ([i.op, i.a, i.b, i.c] ++ be i.imm, 0) ∧ (0 ≤ i.op ∧ i.op < 26) ∧ (0 ≤ i.a ∧ i.a ≤ 7) ∧ (0 ≤ i.b ∧ i.b ≤ 7) ∧ (0 ≤ i.c ∧ i.c ≤ 8) := by
  obtain ⟨h1, h2⟩ := putR_ok h
  have k := known_t h1
  have w := h2
  unfold W at w
  have key : okR (hA i.op) i.a = true ∧ okR (hB i.op) i.b = true ∧ okC i.op i.c = true := by
    cases eA : okR (hA i.op) i.a with
    | false => rw [eA] at w; exact absurd (show ((1 : Int) == 0) = true from w) (by decide)
    | true =>
      cases eB : okR (hB i.op) i.b with
      | false => rw [eA, eB] at w; exact absurd (show ((2 : Int) == 0) = true from w) (by decide)
      | true =>
        cases eC : okC i.op i.c with
        | false => rw [eA, eB, eC] at w; exact absurd (show ((3 : Int) == 0) = true from w) (by decide)
        | true => exact ⟨rfl, rfl, rfl⟩
  have r1 := okR_range key.1
  have r2 := okR_range key.2.1
  have r3 := okC_range key.2.2
  refine ⟨?_, k, r1, r2, r3⟩
  unfold putS
  rw [h1, h2, show i.op % 256 = i.op by omega, show i.a % 256 = i.a by omega, show i.b % 256 = i.b by omega, show i.c % 256 = i.c by omega]
  rfl
def putB (i : Ins) : List Int := (putS i).1
theorem putB_len {i : Ins} (h : InsR i) : (putB i).length = 12 := by
  unfold putB; rw [(put_parts h).1]; simp [be]
theorem ins_eq {i j : Ins} (h1 : i.op = j.op) (h2 : i.a = j.a) (h3 : i.b = j.b) (h4 : i.c = j.c) (h5 : i.imm = j.imm) : i = j := by
  cases i; cases j; simp_all
theorem putB_inj {i j : Ins} (hi : InsR i) (hj : InsR j) (mi : 0 ≤ i.imm ∧ i.imm < 18446744073709551616) (mj : 0 ≤ j.imm ∧ j.imm < 18446744073709551616) (h : putB i = putB j) : i = j := by
  unfold putB at h
  rw [(put_parts hi).1, (put_parts hj).1] at h
  simp only [List.cons_append, List.nil_append, List.cons.injEq] at h
  obtain ⟨h1, h2, h3, h4, h5⟩ := h
  have e := congrArg val h5
  rw [val_be _ mi.1 mi.2, val_be _ mj.1 mj.2] at e
  exact ins_eq h1 h2 h3 h4 e
/-! like lists -/
theorem nums_inj {xs ys : List Int} (hx : Bytes xs) (hy : Bytes ys) (h : (strOfNums xs).toList = (strOfNums ys).toList) : xs = ys := by
  rw [ByteArray.toList_eq, ByteArray.toList_eq, strOfNums_data, strOfNums_data] at h
  have hl : xs.length = ys.length := by simpa using congrArg List.length h
  apply List.ext_getElem hl
  intro j h1 h2
  have e := congrArg (fun l => l[j]?) h
  simp only [List.getElem?_map, List.getElem?_eq_getElem h1, List.getElem?_eq_getElem h2, Option.map_some, Option.some.injEq] at e
  have b1 := hx _ (List.getElem_mem h1)
  have b2 := hy _ (List.getElem_mem h2)
  have e2 := congrArg UInt8.toNat e
  rw [UInt8.toNat_ofNat', UInt8.toNat_ofNat'] at e2
  omega
theorem eqb_iff {a b : List Int} (ha : Bytes a) (hb : Bytes b) : ((strOfNums a).toList == (strOfNums b).toList) = decide (a = b) := by
  by_cases h : a = b
  · subst h; simp
  · rw [decide_eq_false h]
    rw [beq_eq_false_iff_ne]
    exact fun e => h (nums_inj ha hb e)
theorem ext_getD {α : Type} {d : α} {a b : List α} (hl : a.length = b.length) (h : ∀ j, j < a.length → a.getD j d = b.getD j d) : a = b := by
  apply List.ext_getElem hl
  intro j h1 h2
  have := h j h1
  rw [List.getD_eq_getElem?_getD, List.getD_eq_getElem?_getD, List.getElem?_eq_getElem h1, List.getElem?_eq_getElem h2] at this
  exact this
theorem eqi_l0_iff {a b : List Int} : ∀ (m i : Nat), a.length - i < m → (eqi_l0 a b m i = true ↔ ∀ j, i ≤ j → j < a.length → a.getD j 0 = b.getD j 0) := by
  intro m
  induction m with
  | zero => intro i hm; exact absurd hm (Nat.not_lt_zero _)
  | succ m ih =>
    intro i hm
    rw [eqi_l0]
    by_cases h : (i : Int) < a.length
    · rw [decide_eq_true h, Int.toNat_natCast]
      simp only [cond_true]
      by_cases e : a.getD i 0 = b.getD i 0
      · rw [show (a.getD i 0 != b.getD i 0) = false by simpa using e]
        simp only [cond_false]
        rw [show ((i : Int) + 1) = ((i + 1 : Nat) : Int) from rfl, ih (i + 1) (by omega)]
        refine ⟨fun q j h1 h2 => ?_, fun q j h1 h2 => q j (by omega) h2⟩
        by_cases e2 : j = i
        · subst e2; exact e
        · exact q j (by omega) h2
      · rw [show (a.getD i 0 != b.getD i 0) = true by simpa using e]
        simp only [cond_true]
        exact ⟨fun q => (by cases q), fun q => absurd (q i (Nat.le_refl _) (by omega)) e⟩
    · rw [decide_eq_false h]
      exact ⟨fun _ j h1 h2 => by omega, fun _ => rfl⟩
theorem eqi_iff {a b : List Int} : eqi_s a b = true ↔ a = b := by
  unfold eqi_s
  by_cases hl : a.length = b.length
  · rw [show ((a.length : Int) != (b.length : Int)) = false by simp [hl]]
    simp only [cond_false]
    have := eqi_l0_iff (a := a) (b := b) (a.length - (0 : Int).toNat + 1) 0 (by simp)
    refine Iff.trans this ⟨fun q => ext_getD hl fun j hj => q j (Nat.zero_le _) hj, fun e j _ _ => by rw [e]⟩
  · rw [show ((a.length : Int) != (b.length : Int)) = true by simp; omega]
    exact ⟨fun q => (by cases q), fun e => absurd (by rw [e]) hl⟩
theorem ints_l0_eq (a b : List Int) : ∀ (m : Nat) (i : Int), ints_l0 a b m i = eqi_l0 a b m i := by
  intro m
  induction m with
  | zero => intro i; rfl
  | succ m ih => intro i; rw [ints_l0, eqi_l0, ih]
theorem ints_eq (a b : List Int) : ints_s a b = eqi_s a b := by unfold ints_s eqi_s; rw [ints_l0_eq]
theorem insB {i j : Ins} : (!(i.op == j.op && (i.a == j.a && (i.b == j.b && (i.c == j.c && (i.imm == j.imm)))))) = !decide (i = j) := by
  congr 1
  by_cases h : i = j
  · subst h; simp
  · rw [decide_eq_false h]
    cases h1 : (i.op == j.op && (i.a == j.a && (i.b == j.b && (i.c == j.c && (i.imm == j.imm))))) with
    | false => rfl
    | true =>
      simp only [Bool.and_eq_true, beq_iff_eq] at h1
      exact absurd (ins_eq h1.1 h1.2.1 h1.2.2.1 h1.2.2.2.1 h1.2.2.2.2) h
theorem eqins_l0_iff {a b : List Ins} : ∀ (m i : Nat), a.length - i < m → (eqins_l0 a b m i = true ↔ ∀ j, i ≤ j → j < a.length → a.getD j default = b.getD j default) := by
  intro m
  induction m with
  | zero => intro i hm; exact absurd hm (Nat.not_lt_zero _)
  | succ m ih =>
    intro i hm
    rw [eqins_l0]
    by_cases h : (i : Int) < a.length
    · rw [decide_eq_true h, Int.toNat_natCast, insB]
      simp only [cond_true]
      by_cases e : a.getD i default = b.getD i default
      · rw [decide_eq_true e]
        simp only [Bool.not_true, cond_false]
        rw [show ((i : Int) + 1) = ((i + 1 : Nat) : Int) from rfl, ih (i + 1) (by omega)]
        refine ⟨fun q j h1 h2 => ?_, fun q j h1 h2 => q j (by omega) h2⟩
        by_cases e2 : j = i
        · subst e2; exact e
        · exact q j (by omega) h2
      · rw [decide_eq_false e]
        simp only [Bool.not_false, cond_true]
        exact ⟨fun q => (by cases q), fun q => absurd (q i (Nat.le_refl _) (by omega)) e⟩
    · rw [decide_eq_false h]
      exact ⟨fun _ j h1 h2 => by omega, fun _ => rfl⟩
theorem eqins_iff {a b : List Ins} : eqins_s a b = true ↔ a = b := by
  unfold eqins_s
  by_cases hl : a.length = b.length
  · rw [show ((a.length : Int) != (b.length : Int)) = false by simp [hl]]
    simp only [cond_false]
    have := eqins_l0_iff (a := a) (b := b) (a.length - (0 : Int).toNat + 1) 0 (by simp)
    refine Iff.trans this ⟨fun q => ext_getD hl fun j hj => q j (Nat.zero_le _) hj, fun e j _ _ => by rw [e]⟩
  · rw [show ((a.length : Int) != (b.length : Int)) = true by simp; omega]
    exact ⟨fun q => (by cases q), fun e => absurd (by rw [e]) hl⟩
theorem img_eq {p q : Img} (h1 : p.mem = q.mem) (h2 : p.stack = q.stack) (h3 : p.input = q.input) (h4 : p.data = q.data) (h5 : p.funs = q.funs) (h6 : p.code = q.code) : p = q := by
  cases p; cases q; simp_all
theorem isame_iff {p q : Img} (hp : Bytes p.data) (hq : Bytes q.data) : isame_s p q = true ↔ p = q := by
  unfold isame_s eqb_s
  rw [eqb_iff hp hq]
  constructor
  · intro h
    rcases bifT h with ⟨h1, h⟩ | ⟨_, h⟩
    · rcases bifT h with ⟨h2, h⟩ | ⟨_, h⟩
      · rcases bifT h with ⟨h3, h⟩ | ⟨_, h⟩
        · rcases bifT h with ⟨h4, h⟩ | ⟨_, h⟩
          · rcases bifT h with ⟨h5, h⟩ | ⟨_, h⟩
            · exact img_eq (eq_of_beq h1) (eq_of_beq h2) (eq_of_beq h3) (of_decide_eq_true h4) (eqi_iff.1 h5) (eqins_iff.1 h)
            · cases h
          · cases h
        · cases h
      · cases h
    · cases h
  · intro h
    subst h
    rw [beq_self_eq_true, beq_self_eq_true, beq_self_eq_true, decide_eq_true rfl, eqi_iff.2 rfl, eqins_iff.2 rfl]; rfl
theorem rsame_l0_eq (p q : Img) : ∀ (m : Nat) (i : Int), rsame_l0 p q m i = eqins_l0 p.code q.code m i := by
  intro m
  induction m with
  | zero => intro i; rfl
  | succ m ih => intro i; rw [rsame_l0, eqins_l0, ih]
theorem rsame_eq (p q : Img) : rsame_s p q = isame_s p q := by
  unfold rsame_s isame_s eqb_s eqins_s
  rw [ints_eq, rsame_l0_eq]
  unfold bne
  cases (p.mem == q.mem) with
  | false => rfl
  | true => cases (p.stack == q.stack) with
    | false => rfl
    | true => cases (p.input == q.input) with
      | false => rfl
      | true => cases ((strOfNums p.data).toList == (strOfNums q.data).toList) with
        | false => rfl
        | true => cases eqi_s p.funs q.funs with
          | false => rfl
          | true => rfl
/-! an image's bytes -/
def twoB (f : Int) : List Int := [f.fdiv 256 % 256, f % 256]
def headB (p : Img) : List Int := [82, 66, 54, 52, 1, p.mem % 256, p.stack % 256, p.input % 256, (p.data.length : Int) % 256]
def imgB (p : Img) : List Int := headB p ++ p.data ++ [(p.funs.length : Int) % 256] ++ (p.funs.map twoB).flatten ++ twoB (p.code.length : Int) ++ (p.code.map putB).flatten
theorem drop_getD {α : Type} {d : α} {l : List α} {i : Nat} (h : i < l.length) : l.drop i = l.getD i d :: l.drop (i + 1) := by
  rw [List.drop_eq_getElem_cons h, List.getD_eq_getElem?_getD, List.getElem?_eq_getElem h]; rfl
theorem enc_l1_eq {p : Img} : ∀ (m i : Nat) (out : List Int), p.code.length - i < m → ((∀ j, i ≤ j → j < p.code.length → InsR (p.code.getD j default)) ∧ ¬ stray_s p ≥ 0 ∧ encode_l1 p m i out = (out ++ ((p.code.drop i).map putB).flatten, 0)) ∨ (encode_l1 p m i out).2 ≠ 0 := by
  intro m
  induction m with
  | zero => intro i out hm; exact absurd hm (Nat.not_lt_zero _)
  | succ m ih =>
    intro i out hm
    rw [encode_l1]
    by_cases h : (i : Int) < p.code.length
    · rw [decide_eq_true h, Int.toNat_natCast, put_eq]
      simp only [cond_true]
      by_cases e : (putS (p.code.getD i default)).2 = 0
      · rw [show ((putS (p.code.getD i default)).2 != 0) = false by simpa using e]
        simp only [cond_false]
        rw [show ((i : Int) + 1) = ((i + 1 : Nat) : Int) from rfl]
        rcases ih (i + 1) (out ++ (putS (p.code.getD i default)).1) (by omega) with ⟨q1, q2, q3⟩ | q
        · left
          refine ⟨fun j h1 h2 => ?_, q2, ?_⟩
          · by_cases e2 : j = i
            · subst e2; exact e
            · exact q1 j (by omega) h2
          · rw [q3, drop_getD (d := (default : Ins)) (l := p.code) (i := i) (by omega)]
            simp [putB]
        · exact .inr q
      · rw [show ((putS (p.code.getD i default)).2 != 0) = true by simpa using e]
        exact .inr e
    · rw [decide_eq_false h]
      simp only [cond_false]
      by_cases s : stray_s p ≥ 0
      · rw [decide_eq_true s]; right; exact (by decide : (7 : Int) ≠ 0)
      · rw [decide_eq_false s]
        left
        refine ⟨fun j h1 h2 => by omega, s, ?_⟩
        rw [List.drop_eq_nil_of_le (by omega)]; simp
theorem u8_two (f : Int) : ([IntKind.u8.wrap (f.fdiv (2 ^ 8)), IntKind.u8.wrap f] : List Int) = twoB f := by
  rw [wu8, wu8]; rfl
theorem enc_l0_eq {p : Img} : ∀ (m i : Nat) (out : List Int), p.funs.length - i < m → encode_l0 p m i out = encode_l1 p (p.code.length - (0 : Int).toNat + 1) 0 (out ++ ((p.funs.drop i).map twoB).flatten ++ twoB (p.code.length : Int)) := by
  intro m
  induction m with
  | zero => intro i out hm; exact absurd hm (Nat.not_lt_zero _)
  | succ m ih =>
    intro i out hm
    rw [encode_l0, u8_two, u8_two]
    by_cases h : (i : Int) < p.funs.length
    · rw [decide_eq_true h, Int.toNat_natCast]
      simp only [cond_true]
      rw [show ((i : Int) + 1) = ((i + 1 : Nat) : Int) from rfl, ih (i + 1) _ (by omega), drop_getD (d := (0 : Int)) (l := p.funs) (i := i) (by omega)]
      simp
    · rw [decide_eq_false h, List.drop_eq_nil_of_le (by omega)]
      simp
/-- What an image that is encoded is, and its bytes. -/
theorem enc_eq {p : Img} (h : sizes_s p = true) : ((∀ j, j < p.code.length → InsR (p.code.getD j default)) ∧ ¬ stray_s p ≥ 0 ∧ encode_s p = (imgB p, 0)) ∨ (encode_s p).2 ≠ 0 := by
  unfold encode_s
  rw [h]
  simp only [Bool.not_true, cond_false]
  have e := enc_l0_eq (p := p) (p.funs.length - (0 : Int).toNat + 1) 0 (((([82, 66, 54, 52] : List Int) ++ ([1, IntKind.u8.wrap (p.mem), IntKind.u8.wrap (p.stack), IntKind.u8.wrap (p.input), IntKind.u8.wrap ((p.data.length : Int))] : List Int)) ++ p.data) ++ ([IntKind.u8.wrap ((p.funs.length : Int))] : List Int)) (by simp)
  rw [show ((0 : Nat) : Int) = 0 from rfl] at e
  rw [e]
  have q := enc_l1_eq (p := p) (p.code.length - (0 : Int).toNat + 1) 0 (((([82, 66, 54, 52] : List Int) ++ ([1, IntKind.u8.wrap (p.mem), IntKind.u8.wrap (p.stack), IntKind.u8.wrap (p.input), IntKind.u8.wrap ((p.data.length : Int))] : List Int)) ++ p.data) ++ ([IntKind.u8.wrap ((p.funs.length : Int))] : List Int) ++ ((p.funs.drop 0).map twoB).flatten ++ twoB (p.code.length : Int)) (by simp)
  rw [show ((0 : Nat) : Int) = 0 from rfl] at q
  rcases q with ⟨q1, q2, q3⟩ | q
  · left
    refine ⟨fun j hj => q1 j (Nat.zero_le _) hj, q2, ?_⟩
    rw [q3]
    simp only [wu8, imgB, headB, List.drop_zero]
    rfl
  · exact .inr q
end Go.Proofs.Ythfgakbigpnkhaa.Sx.C3
