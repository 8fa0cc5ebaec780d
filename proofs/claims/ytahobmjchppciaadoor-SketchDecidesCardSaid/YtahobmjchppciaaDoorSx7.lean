/- What operations do to what is known: rows written, grown, made; calls. -/
import Derived.Test.YtahobmjchppciaaDoorSx6
import Derived.Laws.OwnMore
namespace Go.Proofs.YtahobmjchppciaaDoor.Sx
open Go Go.RowKit
set_option linter.unusedVariables false
set_option linter.unusedSimpArgs false

section
variable {P : Program} {o : Oper} {avs : List AV} {pre : Hp} {out : AV} {ρ : Names} {D : Still} {w w' : World}

theorem flatten_set {sz off : Nat} {cv e e' : List Value} (he' : e' = e.take off ++ cv ++ e.drop (off + cv.length)) (hoff : off + cv.length ≤ sz) : ∀ (l : List (List Value)), (∀ x ∈ l, x.length = sz) → ∀ (i : Nat), l[i]? = some e →
    l.flatten.take (i * sz + off) ++ cv ++ l.flatten.drop (i * sz + off + cv.length) = (l.set i e').flatten
  | [], _, i, h => by simp at h
  | y :: l, hl, 0, h => by
    simp at h; subst h
    have hy := hl y (List.mem_cons_self ..)
    simp only [List.flatten_cons, Nat.zero_mul, Nat.zero_add, List.set_cons_zero]
    rw [List.take_append_of_le_length (by omega), List.drop_append_of_le_length (by omega), he']
    simp only [List.append_assoc]
  | y :: l, hl, i + 1, h => by
    have hy := hl y (List.mem_cons_self ..)
    have ih := flatten_set he' hoff l (fun x hx => hl x (List.mem_cons_of_mem _ hx)) i (by simpa using h)
    simp only [List.flatten_cons, List.set_cons_succ]
    rw [← ih, show (i + 1) * sz + off = y.length + (i * sz + off) by rw [hy, Nat.add_mul]; omega, List.take_length_add_append, show y.length + (i * sz + off) + cv.length = y.length + (i * sz + off + cv.length) by omega, List.drop_length_add_append]
    simp only [List.append_assoc]

/-- A store into a named row's element. -/
theorem ok_store_oe {t : TypeId} {x y : Operand} {n sz i off k : Nat} {te : TypeId} {rows : List (List Value)} {e : List Value} {c : AV} {kk : Option Nat} {cv : List Value} (ho : o.op = .store t x y) (ht : aggOf P t = some kk) (hp : pre n = some (.row sz te k rows)) (hi : rows[i]? = some e)
    (hcv : plain?.plainL c.cells = some cv) (hk : c.cells.length = kk.getD 1) (hc : c.cells.all AV.one = true) (hl : off + cv.length ≤ e.length) :
    OpOk P o [.oe n sz i off, c] pre (.v undef) (updH pre n (some (.row sz te k (rows.set i (e.take off ++ cv ++ e.drop (off + cv.length)))))) := by
  intro ρ D w a hr hs K Q hK
  rw [ho] at hr
  obtain ⟨r1, r2⟩ := reps_two hr
  have hh := hs.hold n _ hp
  have hcr := cells_ok r2 hc
  have hones := ones_ok hcr hc
  have hvs := plainL_rep _ _ _ hcv hcr
  generalize hy : a.eval x = y1 at r1
  cases r1 with
  | oe _ _ _ _ b len cap hb =>
    obtain ⟨h0, hrk, hown, hrl⟩ := hh
    have hsz := hrl e (List.mem_of_getElem? hi)
    have hlt : i < rows.length := (List.getElem?_eq_some_iff.1 hi).1
    obtain ⟨hx1, hx2⟩ := hown
    rcases hx2 with ⟨hx2, _⟩ | ⟨g, cap', cur, a1, a2, a3, a4, a5, a6, a7⟩
    · rw [hb] at hx2; cases hx2
    · rw [hb] at a1
      cases a1
      have hfl : rows.flatten.length = k * sz := hx1
      have hpos : i * sz + sz ≤ k * sz := by
        have : (i + 1) * sz ≤ k * sz := Nat.mul_le_mul_right _ (by omega)
        rw [Nat.add_mul] at this; omega
      have hcap : k * sz ≤ cap * sz := Nat.mul_le_mul_right _ a4
      have l2 := hcr.length
      have hvl : (a.eval y).cells.size = cv.length := by rw [← Array.length_toList, hvs]
      have hst := run_store ht (w := w) (g := b) (off := i * sz + off) (cur := cur) (te := te) (v := a.eval y) (by rw [← hk, l2, Array.length_toList]) a3 (by rw [hvl]; omega) hones
      have e1 : (execOp a.eval o).run P w = .ok .skip (w.setRow b (cur.toList.take (i * sz + off) ++ cv ++ cur.toList.drop (i * sz + off + cv.length)).toArray) := by
        rw [hvl, hvs] at hst
        simp [execOp, ho, hy, Instr.storeAt, Instr.sureAddr, hst]
      unfold Oper.wp
      rw [e1]
      have hcur : cur.toList = rows.flatten ++ cur.toList.drop (k * sz) := by rw [← a7, List.take_append_drop]
      have hnew : (cur.toList.take (i * sz + off) ++ cv ++ cur.toList.drop (i * sz + off + cv.length)) = (rows.set i (e.take off ++ cv ++ e.drop (off + cv.length))).flatten ++ cur.toList.drop (k * sz) := by
        rw [← flatten_set rfl (by omega) rows hrl i hi]
        rw [hcur]
        rw [List.take_append_of_le_length (by omega), List.drop_append_of_le_length (by omega)]
        simp [← hfl]
      have hlen' : (rows.set i (e.take off ++ cv ++ e.drop (off + cv.length))).flatten.length = k * sz := by
        rw [← flatten_set rfl (by omega) rows hrl i hi]
        simp only [List.length_append, List.length_take, List.length_drop]
        omega
      refine hK undef _ ρ D (Step.chg hs (by rw [hp]; simp) (by rw [hb]; rfl) rfl rfl rfl (by simp [World.setRow]) (fun m hm => setRow_other _ _ _ _ hm) ⟨h0, by simpa using hrk, ⟨hlen', .inr ⟨b, cap, _, hb, Nat.zero_le _, setRow_heap _ _ _ _ _ _ a3, a4, a5, ?_, ?_⟩⟩, ?_⟩) (.v _)
      · have := congrArg List.length hcur
        rw [hnew]
        simp only [List.size_toArray, List.length_append, hlen']
        simp only [List.length_append, Array.length_toList, hfl] at this
        omega
      · rw [hnew]
        simp only
        rw [List.take_append_of_le_length (by omega), List.take_of_length_le (by omega)]
      · intro r hr'
        rcases List.mem_or_eq_of_mem_set hr' with h | h
        · exact hrl r h
        · rw [h]; simp only [List.length_append, List.length_take, List.length_drop]; omega

/-- Cells that a slice shows. -/
def Shows (w : World) (y : Value) (k : Nat) (cells : List Value) : Prop := ∃ base cap, y = .slice base k cap ∧ (base = none → k = 0 ∧ cap = 0) ∧ ∀ ad, base = some ad → ∀ (j : Nat) (u : Value), cells[j]? = some u → w.cell? (ad.add j) = some u

theorem ro_flat {b : Nat} {cells : Array Value} {sz : Nat} : ∀ (rows : List (List Value)) (o : Nat), (∀ (i : Nat) (row : List Value), rows[i]? = some row → row.length = sz ∧ ∀ (j : Nat) (x : Value), row[j]? = some x → cells[o + i * sz + j]? = some x) → ∀ (j : Nat) (u : Value), rows.flatten[j]? = some u → cells[o + j]? = some u
  | [], o, _, j, u, h => by simp at h
  | r :: rows, o, h, j, u, hj => by
    have h0 := h 0 r rfl
    rw [List.flatten_cons] at hj
    by_cases c : j < r.length
    · rw [List.getElem?_append_left c] at hj
      have := h0.2 j u hj
      simpa using this
    · rw [List.getElem?_append_right (by omega)] at hj
      have := ro_flat (b := b) rows (o + sz) (fun i row hi => by
        have h1 := h (i + 1) row (by simpa using hi)
        refine ⟨h1.1, fun j x hx => ?_⟩
        have := h1.2 j x hx
        rwa [show o + (i + 1) * sz + j = o + sz + i * sz + j by rw [Nat.add_mul]; omega] at this) (j - r.length) u hj
      rwa [show o + sz + (j - r.length) = o + j by rw [← h0.1]; omega] at this

theorem shows_ro {sz k : Nat} {rows : List (List Value)} {y : Value} (s : Sat (fun _ => True) ρ D pre w) (r : Rep ρ D (.ro sz k rows) y) : Shows w y k rows.flatten ∧ rows.flatten.length = k * sz := by
  cases r with
  | ro _ _ _ base cap h1 h2 h3 h4 =>
    rcases h1 with h1 | ⟨b, o', cells, te, fr, h5, h6, h7⟩
    · subst h1
      simp at h2
      subst h2
      exact ⟨⟨base, cap, rfl, fun h => ⟨rfl, h4 h⟩, fun ad _ j u hj => by simp at hj⟩, by simp⟩
    · subst h5
      refine ⟨⟨_, cap, rfl, (fun h => by cases h), fun ad hd j u hj => ?_⟩, ?_⟩
      · cases hd
        rw [add_plain]
        have := ro_flat (b := b) rows o' h7 j u hj
        simp [World.cell?, s.still b _ h6, this]
      · rw [← h2]
        have : ∀ r ∈ rows, r.length = sz := fun r hr => by
          obtain ⟨i, hi⟩ := List.mem_iff_getElem?.1 hr
          exact (h7 i r hi).1
        clear h7 h6 h2 h3 h4
        induction rows with
        | nil => simp
        | cons r rows ih => simp [this r (List.mem_cons_self ..), ih (fun x hx => this x (List.mem_cons_of_mem _ hx)), Nat.add_mul]; omega
theorem shows_own {sz k n : Nat} {te : TypeId} {rows : List (List Value)} {y : Value} (s : Sat (fun _ => True) ρ D pre w) (hp : pre n = some (.row sz te k rows)) (r : Rep ρ D (.own n) y) : Shows w y k rows.flatten ∧ rows.flatten.length = k * sz := by
  have hh := s.hold n _ hp
  have hl : rows.flatten.length = k * sz := hh.2.2.1.1
  obtain ⟨base, cap, h5, h6, h7, h8⟩ := own_len hh
  cases r with
  | own _ _ =>
    refine ⟨⟨base, cap, h5, fun h => ?_, fun ad hd j u hj => ?_⟩, hl⟩
    · obtain ⟨h9, h10⟩ := h7 h
      have := hh.2.1
      rw [h9] at this
      exact ⟨this.symm, h10⟩
    · obtain ⟨b, cur, rfl, h9, h10, h11⟩ := h8 ad hd
      rw [add_plain, Nat.zero_add]
      rw [← h11, List.getElem?_take] at hj
      split at hj
      · simp only [World.cell?, h9]
        simpa using hj
      · cases hj
theorem shows_nil : Shows w (.slice none 0 0) 0 [] := ⟨none, 0, rfl, fun _ => ⟨rfl, rfl⟩, fun ad h => by cases h⟩

/-- Something is appended to a row. -/
theorem append_run {t e ty : TypeId} {i : TypeInfo} {z : Value} {sz : Nat} (ht : P.underlying t = some (.slice e)) (hi : P.info? e = some i) (hz : i.zero = some z) (hsize : i.size = sz) (hzs : z.cells.size = sz) (hsz : 0 < sz)
    {v y : Value} {k m : Nat} {xs news : List Value} (hown : w.ownsRow 0 e sz v k xs) (hy : Shows w y m news) (hl : news.length = m * sz) (h1 : ∀ u ∈ news, u.oneCell' = true) (h63 : k + m ≤ maxLen) (hbytes : (k + m) * i.bytes ≤ 140737488355328) :
    ∃ v' w', (Builtin.append_ #[t, t] ty #[v, y]).run P w = .ok v' w' ∧ w'.ownsRow 0 e sz v' (k + m) (xs ++ news) ∧ w.grownBy w' v.ownBlock ∧ (blk v' = blk v ∨ blk v' = some w.heap.size) := by
  obtain ⟨base, cap, rfl, hn, hs⟩ := hy
  cases base with
  | none =>
    obtain ⟨rfl, rfl⟩ := hn rfl
    have hn : news = [] := List.eq_nil_of_length_eq_zero (by simpa using hl)
    subst hn
    have := run_append_owned_none (P := P) (w := w) 0 t ty e i sz ht hi v k xs hown
    exact ⟨v, w, this, by simpa using hown, ⟨rfl, rfl, rfl, Nat.le_refl _, fun _ _ _ => rfl⟩, .inl rfl⟩
  | some ad =>
    obtain ⟨v', w', h2, h3, h4, h5⟩ := run_append_own (P := P) w 0 t ty e i z sz i.bytes ht hi hz hsize rfl hzs hsz v k xs hown ad m cap news hl (hs ad rfl) h1 h63 hbytes (Nat.zero_le _)
    refine ⟨v', w', h2, h3, h4, ?_⟩
    have hsmall : k + m ≤ 9223372036854775807 := by simp only [maxLen] at h63; omega
    subst hsize
    rcases hown.2 with ⟨rfl, rfl⟩ | ⟨g, cap', cur, rfl, hbg, hg, hnc, hcm, hcs, htake⟩
    · by_cases hm : m = 0
      · exact .inl (by rw [h5.2 ⟨rfl, hm⟩])
      · have hr := run_append_nil (P := P) w t ty e i z ht hi hz ad m cap news hl (hs ad rfl) (by omega) (by omega) (by have hb := hbytes; simp only [Nat.zero_add] at hb; omega)
        rw [h2] at hr
        simp only [Result.ok.injEq] at hr
        exact .inr (by rw [hr.1]; rfl)
    · by_cases hroom : k + m ≤ cap'
      · have hfit : k * i.size + news.length ≤ cur.size := by rw [hl, hcs, ← Nat.add_mul]; exact Nat.mul_le_mul_right _ hroom
        have hr := run_append_room (P := P) w t ty e i ht hi g k cap' cur hg ad m cap news hl (hs ad rfl) h1 hroom hfit
        rw [h2] at hr
        simp only [Result.ok.injEq] at hr
        exact .inl (by rw [hr.1]; rfl)
      · have hr := run_append_grow (P := P) w t ty e i z ht hi hz ⟨g, 0, none⟩ k cap' xs hown.1 (hown.cells (g := g) rfl) ad m cap news hl (hs ad rfl) (by omega) (by omega) (growslice_fits (by omega) hbytes)
        rw [h2] at hr
        simp only [Result.ok.injEq] at hr
        exact .inr (by rw [hr.1]; rfl)

/-- A row is another one, under a new name. -/
theorem Step.grow {n n' : Nat} {ob : Ob} {v v' : Value} (s : Sat (fun _ => True) ρ D pre w) (hv : blk v = none ∨ (pre n ≠ none ∧ blk (ρ n) = blk v)) (hn' : pre n' = none) (hu : ∀ m x, pre m = some x → x.uses n' = false)
    (hg : w.grownBy w' v.ownBlock) (ho : v.ownBlock = blk v) (hb : blk v' = blk v ∨ blk v' = some w.heap.size) (hh : Holds (fun m => if m = n' then v' else ρ m) D w' n' ob) :
    Step (fun m => updH (updH pre n none) n' (some ob) m ≠ none ∧ pre m = none) pre (updH (updH pre n none) n' (some ob)) ρ D w (fun m => if m = n' then v' else ρ m) D w' := by
  have hD : D w.heap.size = none := by
    cases hc : D w.heap.size with
    | none => rfl
    | some z =>
      have := s.still _ _ hc
      rw [Array.getElem?_eq_none (Nat.le_refl _)] at this
      cases this
  have hDv : ∀ b, blk v = some b → D b = none := by
    intro b h
    rcases hv with hv | ⟨h1, h2⟩
    · rw [hv] at h; cases h
    · exact (s.dis n b h1 (h2.trans h)).1
  have old : ∀ m, updH (updH pre n none) n' (some ob) m ≠ none → m ≠ n' → pre m ≠ none ∧ m ≠ n := by
    intro m hm e
    rw [updH_other _ _ e] at hm
    by_cases e2 : m = n
    · rw [e2, updH_same] at hm; exact absurd rfl hm
    · rw [updH_other _ _ e2] at hm; exact ⟨hm, e2⟩
  have lt : ∀ m b, pre m ≠ none → blk (ρ m) = some b → b < w.heap.size := fun m b hm hb' => by
    obtain ⟨x, hx⟩ := Option.ne_none_iff_exists'.1 hm
    exact (s.hold m x hx).lt hb'
  have notv : ∀ m b, pre m ≠ none → m ≠ n → blk (ρ m) = some b → blk v ≠ some b := by
    intro m b h1 h2 h3 h4
    rcases hv with hv | ⟨h5, h6⟩
    · rw [hv] at h4; cases h4
    · exact s.inj m n b h1 h5 h2 h3 (h6.trans h4)
  have notv' : ∀ m b, pre m ≠ none → m ≠ n → blk (ρ m) = some b → blk v' ≠ some b := by
    intro m b h1 h2 h3 h4
    rcases hb with hb | hb
    · exact notv m b h1 h2 h3 (hb ▸ h4)
    · rw [hb] at h4
      have := lt m b h1 h3
      have := Option.some.inj h4
      omega
  refine ⟨⟨hg.os, hg.tape, hg.output, hg.size, fun k hk hn => hg.block k hk fun e => ?_⟩, fun m hm => ?_, Still.le_refl D, fun b h1 h2 => absurd h1 h2, ⟨fun m z hm => ?_, fun m m' b h1 h2 h3 h4 h5 => ?_, fun m b h1 h2 => ?_, fun b z hz => ?_, s.glob⟩⟩
  · rw [ho] at e
    rcases hv with hv | ⟨h1, h2⟩
    · rw [hv] at e; cases e
    · exact hn ⟨n, h1, h2.trans e.symm⟩
  · refine if_neg fun e => hm ⟨?_, ?_⟩
    · rw [e, updH_same]; simp
    · rw [e]; exact hn'
  · by_cases e : m = n'
    · rw [e, updH_same] at hm
      obtain rfl := Option.some.inj hm
      rw [e]; exact hh
    · obtain ⟨h1, h2⟩ := old m (by rw [hm]; simp) e
      rw [updH_other _ _ e, updH_other _ _ h2] at hm
      refine Holds.mono (Still.le_refl D) (if_neg e) (fun q hq => if_neg fun eq => ?_) (fun b hb' => hg.block b (lt m b h1 hb') fun eb => notv m b h1 h2 hb' (by rw [← ho]; exact eb.symm)) (s.hold m z hm)
      rw [eq, hu m z hm] at hq
      cases hq
  · by_cases e : m = n' <;> by_cases e' : m' = n'
    · exact h3 (e.trans e'.symm)
    · obtain ⟨q1, q2⟩ := old m' h2 e'
      rw [if_pos e] at h4
      rw [if_neg e'] at h5
      exact notv' m' b q1 q2 h5 h4
    · obtain ⟨q1, q2⟩ := old m h1 e
      rw [if_neg e] at h4
      rw [if_pos e'] at h5
      exact notv' m b q1 q2 h4 h5
    · rw [if_neg e] at h4
      rw [if_neg e'] at h5
      exact s.inj m m' b (old m h1 e).1 (old m' h2 e').1 h3 h4 h5
  · by_cases e : m = n'
    · rw [if_pos e] at h2
      rcases hb with hb | hb
      · rw [hb] at h2
        refine ⟨hDv b h2, ?_⟩
        rcases hv with hv | ⟨q1, q2⟩
        · rw [hv] at h2; cases h2
        · exact .inl ⟨n, q1, q2.trans h2⟩
      · rw [hb] at h2
        obtain rfl := Option.some.inj h2
        exact ⟨hD, .inr (Nat.le_refl _)⟩
    · obtain ⟨q1, q2⟩ := old m h1 e
      rw [if_neg e] at h2
      exact ⟨(s.dis m b q1 h2).1, .inl ⟨m, q1, h2⟩⟩
  · have hlt : b < w.heap.size := by
      have := s.still b z hz
      exact (Array.getElem?_eq_some_iff.1 this).1
    refine (hg.block b hlt fun e => ?_).trans (s.still b z hz)
    rw [ho] at e
    rw [hDv b e.symm] at hz
    cases hz

/-- What a slice that is read shows. -/
def srcRows (pre : Hp) (sz : Nat) : AV → Option (Nat × List (List Value))
  | .v (.slice none 0 0) => some (0, [])
  | .ro sz' k rows => if sz' = sz then some (k, rows) else none
  | .own m => match pre m with
    | some (.row sz' _ k rows) => if sz' = sz then some (k, rows) else none
    | _ => none
  | _ => none
theorem srcRows_ok {sz m : Nat} {rows : List (List Value)} {av : AV} {y : Value} (s : Sat (fun _ => True) ρ D pre w) (h : srcRows pre sz av = some (m, rows)) (r : Rep ρ D av y) : Shows w y m rows.flatten ∧ rows.flatten.length = m * sz ∧ rows.length = m ∧ ∀ r ∈ rows, r.length = sz := by
  unfold srcRows at h
  split at h
  · cases h
    cases r
    exact ⟨shows_nil, by simp, rfl, (fun r hr => by cases hr)⟩
  · split at h
    · rename_i e
      subst e
      cases h
      obtain ⟨hsh1, hsh2⟩ := shows_ro s r
      refine ⟨hsh1, hsh2, ?_⟩
      cases r with
      | ro _ _ _ base cap h1 h2 h3 h4 =>
        refine ⟨h2, fun r hr => ?_⟩
        rcases h1 with h1 | ⟨b, o', cells, te, fr, h5, h6, h7⟩
        · subst h1; cases hr
        · obtain ⟨i, hi⟩ := List.mem_iff_getElem?.1 hr
          exact (h7 i r hi).1
    · cases h
  · split at h
    · split at h
      · rename_i e
        subst e
        cases h
        rename_i hp
        obtain ⟨h1, h2⟩ := shows_own s hp r
        exact ⟨h1, h2, (s.hold _ _ hp).2.1, (s.hold _ _ hp).2.2.2⟩
      · cases h
    · cases h
  · cases h

structure ElemOk (P : Program) (t e : TypeId) (sz bytes : Nat) : Prop where
  ht : P.underlying t = some (.slice e)
  ok : ∃ i z, P.info? e = some i ∧ i.zero = some z ∧ i.size = sz ∧ z.cells.size = sz ∧ i.bytes = bytes
  pos : 0 < sz

theorem ok_append {t e : TypeId} {x y : Operand} {sz bytes n n' k m : Nat} {sA sB : AV} {rows rows2 : List (List Value)} (ho : o.op = .call { callee := .builtin .append, args := #[x, y], argTypes := #[t, t] }) (ht : ElemOk P t e sz bytes)
    (hA : (sA = .own n ∧ pre n = some (.row sz e k rows)) ∨ (sA = .v (.slice none 0 0) ∧ pre n = none ∧ k = 0 ∧ rows = [])) (hB : srcRows pre sz sB = some (m, rows2))
    (hn' : pre n' = none) (hu : ∀ m x, pre m = some x → x.uses n' = false) (h1 : ∀ r ∈ rows2, ∀ u ∈ r, u.oneCell' = true) (h63 : k + m ≤ maxLen) (hbytes : (k + m) * bytes ≤ 140737488355328) :
    OpOk P o [sA, sB] pre (.own n') (updH (updH pre n none) n' (some (.row sz e (k + m) (rows ++ rows2)))) := by
  intro ρ D w a hr hs K Q hK
  rw [ho] at hr
  obtain ⟨r1, r2⟩ := reps_two (x := x) (y := y) hr
  obtain ⟨i, z, hi, hz, hsize, hzs, hby⟩ := ht.ok
  obtain ⟨hy, hl, hlen2, hrl2⟩ := srcRows_ok hs hB r2
  have hX : w.ownsRow 0 e sz (a.eval x) k rows.flatten ∧ (blk (a.eval x) = none ∨ (pre n ≠ none ∧ blk (ρ n) = blk (a.eval x))) ∧ rows.length = k ∧ (∀ r ∈ rows, r.length = sz) ∧ (a.eval x).ownBlock = blk (a.eval x) := by
    rcases hA with ⟨rfl, hp⟩ | ⟨rfl, hp, rfl, rfl⟩
    · have hh := hs.hold n _ hp
      have e1 : ρ n = a.eval x := by
        generalize a.eval x = u at r1
        cases r1; rfl
      have ho2 : (ρ n).ownBlock = blk (ρ n) := by
        rcases hh.2.2.1.2 with ⟨q, _⟩ | ⟨g, cap, cur, q, _⟩ <;> rw [q] <;> rfl
      rw [← e1]
      exact ⟨hh.2.2.1, .inr ⟨by rw [hp]; simp, rfl⟩, hh.2.1, hh.2.2.2, ho2⟩
    · generalize a.eval x = u at r1
      cases r1
      exact ⟨World.ownsRow_nil w 0 e sz, .inl rfl, rfl, (fun r hr => by cases hr), rfl⟩
  obtain ⟨hown, hv, hrk, hrl, hob⟩ := hX
  obtain ⟨v', w', hrun, hown', hg, hb⟩ := append_run (ty := o.type) ht.ht hi hz hsize hzs ht.pos hown hy hl (fun u hu' => by
    obtain ⟨r, hr1, hr2⟩ := List.mem_flatten.1 hu'
    exact h1 r hr1 u hr2) h63 (by rw [hby]; exact hbytes)
  have e2 : (execOp a.eval o).run P w = .ok (.value v') w' := by
    unfold execOp
    simp only [ho, resolve, invoke, builtin, Sem.run_bind, Sem.run_pure, Result.andThen_ok, List.map_toArray, List.map_cons, List.map_nil, hrun]
  unfold Oper.wp
  rw [e2]
  have hone : v'.oneCell' = true := by
    rcases hown'.2 with ⟨q, _⟩ | ⟨g, cap, cur, q, _⟩ <;> rw [q] <;> rfl
  refine hK v' w' _ D (Step.grow hs hv hn' hu hg hob hb ⟨ht.pos, by simp [hrk, hlen2], ?_, fun r hr => ?_⟩) ?_
  · show w'.ownsRow 0 e sz (if n' = n' then v' else ρ n') _ _
    rw [if_pos rfl, List.flatten_append]; exact hown'
  · rcases List.mem_append.1 hr with h | h
    · exact hrl r h
    · exact hrl2 r h
  · have := Rep.own (ρ := fun m => if m = n' then v' else ρ m) (D := D) n' (by rw [if_pos rfl]; exact hone)
    rwa [if_pos rfl] at this
end
end Go.Proofs.YtahobmjchppciaaDoor.Sx
