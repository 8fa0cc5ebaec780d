/- Regions, whole: in the order of the text; in whatever order. -/
import Derived.Test.YtahobmjchppciaaDoorSx3
namespace Go.Proofs.YtahobmjchppciaaDoor.Sx
open Go Go.RowKit

def un (S : Nat → Bool) : Nat → Nat
  | 0 => 0
  | m + 1 => un S m + if S m then 0 else 1
theorem un_zero {S : Nat → Bool} : ∀ m, un S m = 0 → ∀ k, k < m → S k = true
  | 0, _, k, hk => by omega
  | m + 1, h, k, hk => by
    simp only [un] at h
    cases hs : S m with
    | false => rw [hs] at h; simp at h
    | true =>
      by_cases e : k = m
      · rw [e]; exact hs
      · exact un_zero m (by omega) k (by omega)
theorem un_same {S : Nat → Bool} {j : Nat} : ∀ m, m ≤ j → un (fun k => S k || k == j) m = un S m
  | 0, _ => rfl
  | m + 1, h => by
    have : (m == j) = false := by simp; omega
    have ih := un_same (S := S) (j := j) m (by omega)
    simp only [un, this, Bool.or_false]
    rw [ih]
theorem un_less {S : Nat → Bool} {j : Nat} (hj : S j = false) : ∀ m, j < m → un (fun k => S k || k == j) m + 1 = un S m
  | 0, h => by omega
  | m + 1, h => by
    by_cases e : m = j
    · subst e
      simp [un, hj, un_same m (Nat.le_refl _)]
    · have : (m == j) = false := by simpa using e
      have ih := un_less hj m (by omega)
      simp only [un, this, Bool.or_false]
      omega

theorem getD_set {listed : Array Bool} {j : Nat} (h : j < listed.size) : (fun k => (listed.setIfInBounds j true).getD k false) = fun k => listed.getD k false || k == j := by
  funext k
  simp only [Array.getD_eq_getD_getElem?]
  by_cases e : j = k
  · subst e
    rw [Array.getElem?_setIfInBounds_self_of_lt h]
    simp
  · rw [Array.getElem?_setIfInBounds_ne e]
    have : (k == j) = false := by simp; omega
    rw [this, Bool.or_false]

section
variable {P : Program} {nt : FT} {ops : Array Oper} {rs : Nat → Rec} {ord : Nat → Nat → Bool} {p0 : Hp} {T0 : Nat → AV} {H0 : Hp} {ρ0 : Names} {D0 : Still} {w0 : World} {Q : Exit → Act → World → Prop}

def Back (ops : Array Oper) : Prop := ∀ (j : Nat) (o : Oper), ops[j]? = some o → ∀ e ∈ o.after, Region.binds .any e = true → e.on < j

theorem all_listed {listed : Array Bool} (hb : Back ops) (hl : listed.size = ops.size) (hr : Region.ready .any ops listed = []) : ∀ k, k < ops.size → listed.getD k false = true := by
  intro k
  induction k using Nat.strongRecOn with
  | ind k ih =>
    intro hk
    cases hc : listed.getD k false with
    | true => rfl
    | false =>
      have : k ∈ Region.ready .any ops listed := by
        refine mem_ready.2 ⟨?_, ops[k], Array.getElem?_eq_some_iff.2 ⟨hk, rfl⟩, fun e he hbe => ?_⟩
        · simp only [Array.getD_eq_getD_getElem?] at hc ⊢
          rw [Array.getElem?_eq_getElem (by omega)] at hc ⊢
          exact hc
        · have := hb k ops[k] (Array.getElem?_eq_some_iff.2 ⟨hk, rfl⟩) e he hbe
          exact ih e.on this (by omega)
      rw [hr] at this
      cases this

theorem tAft_all {S : Nat → Bool} (h : ∀ k, k < ops.size → S k = true) : tAft ops rs S T0 = tAt ops rs T0 ops.size := funext fun _ => after_agree _ fun i hi _ => h i hi
theorem hAft_all {S : Nat → Bool} (h : ∀ k, k < ops.size → S k = true) : hAft ops rs S H0 = hAt rs H0 ops.size := funext fun _ => after_agree _ fun i hi _ => h i hi

theorem Region.anyOrder (R : Region P nt ops rs ord p0 T0 H0) (ho : OrdOk ops ord) (hb : Back ops)
    (hQ : ∀ ρ D a w, TRep nt ρ D (tAt ops rs T0 ops.size) a → St p0 ρ0 D0 w0 (hAt rs H0 ops.size) ρ D w → Q .normal a w) :
    ∀ (fuel : Nat) (listed : Array Bool) (ρ : Names) (D : Still) (a : Act) (w : World), listed.size = ops.size → un (fun k => listed.getD k false) ops.size ≤ fuel → Closed ops (fun k => listed.getD k false) →
      TRep nt ρ D (tAft ops rs (fun k => listed.getD k false) T0) a → St p0 ρ0 D0 w0 (hAft ops rs (fun k => listed.getD k false) H0) ρ D w → wpAny P .any ops Q fuel listed a w := by
  intro fuel
  induction fuel with
  | zero =>
    intro listed ρ D a w hl hu hc hT hH
    have hall := un_zero ops.size (Nat.le_zero.1 hu)
    refine ⟨?_, hQ ρ D a w (by rw [← tAft_all hall]; exact hT) (by rw [← hAft_all hall]; exact hH)⟩
    refine List.eq_nil_iff_forall_not_mem.2 fun j hj => ?_
    obtain ⟨h1, o, h2, _⟩ := mem_ready.1 hj
    have hjm : j < ops.size := (Array.getElem?_eq_some_iff.1 h2).1
    have := hall j hjm
    simp only [Array.getD_eq_getD_getElem?] at this h1
    rw [Array.getElem?_eq_getElem (by omega)] at this h1
    simp only [Option.getD_some] at this h1
    rw [this] at h1
    cases h1
  | succ fuel ih =>
    intro listed ρ D a w hl hu hc hT hH
    refine ⟨fun hr => ?_, fun j hj => ?_⟩
    · have hall := all_listed hb hl hr
      exact hQ ρ D a w (by rw [← tAft_all hall]; exact hT) (by rw [← hAft_all hall]; exact hH)
    · obtain ⟨h1, o, h2, h3⟩ := mem_ready.1 hj
      have hjm : j < ops.size := (Array.getElem?_eq_some_iff.1 h2).1
      have hjf : listed.getD j false = false := by
        simp only [Array.getD_eq_getD_getElem?] at h1 ⊢
        rw [Array.getElem?_eq_getElem (by omega)] at h1 ⊢
        exact h1
      refine R.one h2 hjf (fun i hi => ho _ hc i j o hi h2 h3) (fun i hi him => ?_) hT hH fun ρ' D' a' w' hT' hH' => ?_
      · cases hq : ord j i with
        | false => rfl
        | true =>
          have hoi := Array.getElem?_eq_some_iff.2 ⟨him, rfl⟩
          have := ho _ hc j i _ hq hoi (hc i _ hi hoi)
          rw [hjf] at this
          cases this
      have e := getD_set (listed := listed) (j := j) (by omega)
      refine ih (listed.setIfInBounds j true) ρ' D' a' w' (by simpa using hl) ?_ ?_ ?_ ?_
      · rw [e]
        have := un_less (S := fun k => listed.getD k false) hjf ops.size hjm
        omega
      · rw [e]
        intro k ok hk hok ed hed hbd
        simp only [Bool.or_eq_true, beq_iff_eq] at hk ⊢
        rcases hk with hk | hk
        · exact .inl (hc k ok hk hok ed hed hbd)
        · subst hk
          rw [h2] at hok
          obtain rfl := Option.some.inj hok
          exact .inl (h3 ed hed hbd)
      · rw [e]; exact hT'
      · rw [e]; exact hH'

/-- In the order of the text. -/
theorem Region.inOrder (R : Region P nt ops rs (fun i j => decide (i < j)) p0 T0 H0)
    (hQ : ∀ ρ D a w, TRep nt ρ D (tAt ops rs T0 ops.size) a → St p0 ρ0 D0 w0 (hAt rs H0 ops.size) ρ D w → Q .normal a w) :
    ∀ (n i : Nat) (ρ : Names) (D : Still) (a : Act) (w : World), i + n = ops.size →
      TRep nt ρ D (tAft ops rs (fun k => decide (k < i)) T0) a → St p0 ρ0 D0 w0 (hAft ops rs (fun k => decide (k < i)) H0) ρ D w → wpOps P ops Q (List.range' i n) a w := by
  intro n
  induction n with
  | zero =>
    intro i ρ D a w hi hT hH
    have hall : ∀ k, k < ops.size → decide (k < i) = true := fun k hk => decide_eq_true (by omega)
    show Q .normal a w
    exact hQ ρ D a w (by rw [← tAft_all hall]; exact hT) (by rw [← hAft_all hall]; exact hH)
  | succ n ih =>
    intro i ρ D a w hi hT hH
    rw [List.range'_succ, wpOps_cons]
    have him : i < ops.size := by omega
    have e : (fun k => decide (k < i) || k == i) = fun k => decide (k < i + 1) := by
      funext k
      by_cases c : k < i
      · simp [c]; omega
      · by_cases d : k = i
        · simp [d]
        · have : ¬ k < i + 1 := by omega
          simp [c, d, this]
    refine R.one (j := i) (o := ops[i]) (Array.getElem?_eq_some_iff.2 ⟨him, rfl⟩) (by simp) (fun k hk => hk) (fun k hk _ => decide_eq_false (by have := of_decide_eq_true hk; omega)) hT hH fun ρ' D' a' w' hT' hH' => ?_
    · rw [e] at hT' hH'
      exact ih (i + 1) ρ' D' a' w' (by omega) hT' hH'

theorem St.drew {H : Hp} {ρ : Names} {D : Still} {w : World} (h : St p0 ρ0 D0 w0 H ρ D w) : St p0 ρ0 D0 w0 H ρ D { w with drawn := w.drawn + 1 } := by
  obtain ⟨⟨⟨k1, k2, k3, k4, k5⟩, h2, h3, h4, ⟨s1, s2, s3, s4, s5⟩⟩⟩ := h
  exact ⟨⟨⟨k1, k2, k3, k4, k5⟩, h2, h3, h4, ⟨fun n o ho => Holds.mono (w' := { w with drawn := w.drawn + 1 }) (Still.le_refl D) rfl (fun _ _ => rfl) (fun _ _ => rfl) (s1 n o ho), s2, s3, s4, s5⟩⟩⟩

/-- A region. -/
theorem Region.wpDraw {id : Nat} (R : Region P nt ops rs ord p0 T0 H0) (ho : OrdOk ops ord) (hb : Back ops) (hm : P.follows .mixedOrders = true)
    (hQ : ∀ ρ D a w, TRep nt ρ D (tAt ops rs T0 ops.size) a → St p0 ρ0 D0 w0 (hAt rs H0 ops.size) ρ D w → Q .normal a w)
    {ρ : Names} {D : Still} {a : Act} {w : World} (hT : TRep nt ρ D T0 a) (hH : St p0 ρ0 D0 w0 H0 ρ D w) : (Code.region id ops true).wp P Q a w := by
  have t0 : tAft ops rs (fun _ => false) T0 = T0 := funext fun _ => after_false _ _
  have h0 : hAft ops rs (fun _ => false) H0 = H0 := funext fun _ => after_false _ _
  refine wp_region_any hm ?_
  have e : (fun k => (Array.replicate ops.size false).getD k false) = fun _ => false := by
    funext k
    simp only [Array.getD_eq_getD_getElem?, Array.getElem?_replicate]
    split <;> rfl
  refine R.anyOrder ho hb hQ ops.size _ ρ D a _ (by simp) ?_ ?_ ?_ ?_
  · have : ∀ m, un (fun k => (Array.replicate ops.size false).getD k false) m ≤ m := fun m => by
      induction m with
      | zero => exact Nat.le_refl _
      | succ m ih => simp only [un]; split <;> omega
    exact this _
  · rw [e]; intro _ _ h; cases h
  · rw [e, t0]; exact hT
  · rw [e, h0]; exact hH.drew
theorem Region.wpText {id : Nat} (R : Region P nt ops rs (fun i j => decide (i < j)) p0 T0 H0)
    (hQ : ∀ ρ D a w, TRep nt ρ D (tAt ops rs T0 ops.size) a → St p0 ρ0 D0 w0 (hAt rs H0 ops.size) ρ D w → Q .normal a w)
    {ρ : Names} {D : Still} {a : Act} {w : World} (hT : TRep nt ρ D T0 a) (hH : St p0 ρ0 D0 w0 H0 ρ D w) : (Code.region id ops false).wp P Q a w := by
  have t0 : tAft ops rs (fun _ => false) T0 = T0 := funext fun _ => after_false _ _
  have h0 : hAft ops rs (fun _ => false) H0 = H0 := funext fun _ => after_false _ _
  refine wp_region ?_
  rw [List.range_eq_range']
  have e : (fun k => decide (k < 0)) = fun _ => false := by funext k; simp
  exact R.inOrder hQ ops.size 0 ρ D a w (by omega) (by rw [e, t0]; exact hT) (by rw [e, h0]; exact hH)

/-- What each operation waits for, as a number's bits. -/
def maskOf (o : Oper) (acc : List Nat) : Nat := o.after.toList.foldl (fun s e => if Region.binds .any e then s ||| 2 ^ e.on ||| acc.getD e.on 0 else s) 0
def masks : List Oper → List Nat → List Nat
  | [], acc => acc
  | o :: os, acc => masks os (acc ++ [maskOf o acc])
def ordOf (ops : Array Oper) : Nat → Nat → Bool := fun i j => ((masks ops.toList []).getD j 0).testBit i

theorem fold_bit (acc : List Nat) (i : Nat) : ∀ (es : List Edge) (s : Nat), (es.foldl (fun s e => if Region.binds .any e then s ||| 2 ^ e.on ||| acc.getD e.on 0 else s) s).testBit i = true → s.testBit i = true ∨ ∃ e ∈ es, Region.binds .any e = true ∧ (e.on = i ∨ (acc.getD e.on 0).testBit i = true)
  | [], s, h => .inl h
  | e :: es, s, h => by
    rw [List.foldl_cons] at h
    rcases fold_bit acc i es _ h with h | ⟨e', h1, h2, h3⟩
    · split at h
      · rename_i hb
        rw [Nat.testBit_or, Nat.testBit_or, Nat.testBit_two_pow, Bool.or_eq_true, Bool.or_eq_true] at h
        rcases h with (h | h) | h
        · exact .inl h
        · exact .inr ⟨e, List.mem_cons_self .., hb, .inl (of_decide_eq_true h)⟩
        · exact .inr ⟨e, List.mem_cons_self .., hb, .inr h⟩
      · exact .inl h
    · exact .inr ⟨e', List.mem_cons_of_mem _ h1, h2, h3⟩

theorem masks_ok (S : Nat → Bool) (all : List Oper) (hS : ∀ (j : Nat) (o : Oper), S j = true → all[j]? = some o → ∀ e ∈ o.after, Region.binds .any e = true → S e.on = true) :
    ∀ (os : List Oper) (acc : List Nat), (∀ (k : Nat) (o : Oper), os[k]? = some o → all[acc.length + k]? = some o) →
      (∀ (k m i : Nat) (o : Oper), acc[k]? = some m → all[k]? = some o → (∀ e ∈ o.after, Region.binds .any e = true → S e.on = true) → m.testBit i = true → S i = true) →
      ∀ (k m i : Nat) (o : Oper), (masks os acc)[k]? = some m → all[k]? = some o → (∀ e ∈ o.after, Region.binds .any e = true → S e.on = true) → m.testBit i = true → S i = true
  | [], acc, _, h => h
  | o :: os, acc, ha, h => by
    refine masks_ok S all hS os (acc ++ [maskOf o acc]) (fun k o' hk => ?_) fun k m i o' hk ho he hi => ?_
    · have := ha (k + 1) o' hk
      rw [List.length_append, List.length_singleton, Nat.add_assoc, Nat.add_comm 1 k]
      exact this
    · by_cases c : k < acc.length
      · rw [List.getElem?_append_left c] at hk
        exact h k m i o' hk ho he hi
      · have hk0 : k = acc.length := by
          apply Classical.byContradiction
          intro hne
          rw [List.getElem?_eq_none (by simp; omega)] at hk
          cases hk
        subst hk0
        have h0 := ha 0 o rfl
        rw [Nat.add_zero, ho] at h0
        obtain rfl := Option.some.inj h0
        rw [List.getElem?_append_right (Nat.le_refl _), Nat.sub_self] at hk
        obtain rfl := Option.some.inj hk
        rcases fold_bit acc i o'.after.toList 0 hi with hb | ⟨e, h1, h2, h3⟩
        · simp at hb
        · have h1' : e ∈ o'.after := by simpa using h1
          have hse := he e h1' h2
          rcases h3 with h3 | h3
          · rw [← h3]; exact hse
          · cases hg : acc[e.on]? with
            | none => rw [List.getD_eq_getElem?_getD, hg] at h3; simp at h3
            | some m' =>
              rw [List.getD_eq_getElem?_getD, hg] at h3
              have hlt : e.on < acc.length := (List.getElem?_eq_some_iff.1 hg).1
              cases hall : all[e.on]? with
              | some oe => exact h e.on m' i oe hg hall (hS e.on oe hse hall) h3
              | none =>
                have : acc.length < all.length := (List.getElem?_eq_some_iff.1 ho).1
                have := List.getElem?_eq_none_iff.1 hall
                omega
theorem ordOf_ok (ops : Array Oper) : OrdOk ops (ordOf ops) := by
  intro S hS i j o h ho he
  unfold ordOf at h
  cases hg : (masks ops.toList [])[j]? with
  | none => rw [List.getD_eq_getElem?_getD, hg] at h; simp at h
  | some m =>
    rw [List.getD_eq_getElem?_getD, hg] at h
    refine masks_ok S ops.toList (fun j o h1 h2 => hS j o h1 (by simpa using h2)) ops.toList [] (fun k o hk => by simpa using hk) (fun k m i o hk => by simp at hk) j m i o hg (by simpa using ho) he h
end
end Go.Proofs.YtahobmjchppciaaDoor.Sx
