/- What operations do to what is known: a named row cut, or written over; an element of an array. -/
import Derived.Test.YtahobmjchppciaaDoorSx10
import Derived.Laws.CopyOwn
namespace Go.Proofs.YtahobmjchppciaaDoor.Sx
open Go Go.RowKit
set_option linter.unusedVariables false
set_option linter.unusedSimpArgs false

section
variable {P : Program} {o : Oper} {avs : List AV} {pre : Hp} {out : AV} {ρ : Names} {D : Still} {w w' : World}

theorem take_flat {sz : Nat} : ∀ (rows : List (List Value)) (h : Nat), (∀ r ∈ rows, r.length = sz) → h ≤ rows.length → (rows.take h).flatten = rows.flatten.take (h * sz)
  | [], h, _, hh => by
    simp only [List.length_nil] at hh
    simp
  | r :: rows, 0, _, _ => by simp
  | r :: rows, h + 1, hr, hh => by
    have h0 := hr r (by simp)
    rw [List.take_succ_cons, List.flatten_cons, List.flatten_cons, take_flat rows h (fun r' hr' => hr r' (by simp [hr'])) (by simpa using hh), show (h + 1) * sz = r.length + h * sz by rw [Nat.add_mul]; omega, List.take_length_add_append]
theorem ok_cut {t e te : TypeId} {x y : Operand} {n n' sz k : Nat} {kd : IntKind} {h : Int} {rows : List (List Value)} (ho : o.op = .slice t x none (some y) none) (ht : P.underlying t = some (.slice e)) (hs : (P.info? e).map (·.size) = some sz)
    (hp : pre n = some (.row sz te k rows)) (hn' : pre n' = none) (hu : ∀ m x, pre m = some x → x.uses n' = false) (h0 : 0 ≤ h) (h1 : h ≤ (k : Int)) :
    OpOk P o [.own n, .v (.int kd h)] pre (.own n') (updH (updH pre n none) n' (some (.row sz te h.toNat (rows.take h.toNat)))) := by
  intro ρ D w a hr hS K Q hK
  rw [ho] at hr
  obtain ⟨r1, r2⟩ := reps_two (x := x) (y := y) (by simpa [Op.operands] using hr)
  obtain ⟨inf, h3, h4⟩ := Option.map_eq_some_iff.1 hs
  obtain ⟨hpos, hrk, hown, hrl⟩ := hS.hold n _ hp
  have e1 : ρ n = a.eval x := by
    generalize a.eval x = u at r1
    cases r1; rfl
  have e2 : a.eval y = .int kd h := by
    generalize a.eval y = u at r2
    cases r2; rfl
  have hrun : ∃ v', (execOp a.eval o).run P w = .ok (.value v') w ∧ w.ownsRow 0 te sz v' h.toNat (rows.take h.toNat).flatten ∧ blk v' = blk (ρ n) ∧ (ρ n).ownBlock = blk (ρ n) := by
    obtain ⟨hx1, hx2⟩ := hown
    rw [take_flat rows h.toNat hrl (by omega)]
    rcases hx2 with ⟨q, q2⟩ | ⟨g, cap, cur, q, q2, q3, q4, q5, q6, q7⟩
    · have b0 : h = 0 := by omega
      subst b0
      refine ⟨.slice none 0 0, ?_, ⟨by simp, .inl ⟨rfl, rfl⟩⟩, by rw [q], by rw [q]; rfl⟩
      simp [execOp, ho, ← e1, q, e2, Instr.sliceAt, run_underlying ht, Instr.slice, Instr.sliceBounds, Instr.sliceBound, asIntOf, sizeOf, typeInfo, h3]
    · have b1 : 0 ≤ h ∧ h ≤ (cap : Int) := by omega
      refine ⟨.slice (some ⟨g, 0, none⟩) h.toNat cap, ?_, ⟨?_, .inr ⟨g, cap, cur, rfl, Nat.zero_le _, q3, by omega, q5, q6, ?_⟩⟩, by rw [q]; rfl, by rw [q]; rfl⟩
      · simp [execOp, ho, ← e1, q, e2, Instr.sliceAt, run_underlying ht, Instr.slice, Instr.sliceBounds, Instr.sliceBound, asIntOf, sizeOf, typeInfo, h3, b1, add_plain]
      · rw [List.length_take, hx1]
        have : h.toNat * sz ≤ k * sz := Nat.mul_le_mul_right _ (by omega)
        omega
      · have : h.toNat * sz ≤ k * sz := Nat.mul_le_mul_right _ (by omega)
        rw [← q7, List.take_take, Nat.min_eq_left this]
  obtain ⟨v', hrun, hown', hb, hob⟩ := hrun
  unfold Oper.wp
  rw [hrun]
  have hone : v'.oneCell' = true := by
    rcases hown'.2 with ⟨q, _⟩ | ⟨g, cap, cur, q, _⟩ <;> rw [q] <;> rfl
  refine hK v' w _ D (Step.grow (v := ρ n) hS (.inr ⟨by rw [hp]; simp, rfl⟩) hn' hu ⟨rfl, rfl, rfl, Nat.le_refl _, fun _ _ _ => rfl⟩ hob (.inl hb) ⟨hpos, by simp; omega, ?_, fun r hr => hrl r (List.mem_of_mem_take hr)⟩) ?_
  · show w.ownsRow 0 te sz (if n' = n' then v' else ρ n') _ _
    rw [if_pos rfl]; exact hown'
  · have := Rep.own (ρ := fun m => if m = n' then v' else ρ m) (D := D) n' (by rw [if_pos rfl]; exact hone)
    rwa [if_pos rfl] at this

/-- A copy into a named row, of elements of one cell. -/
theorem ok_copy {t t' e te : TypeId} {x y : Operand} {n k m : Nat} {sB : AV} {rows rows2 : List (List Value)} (ho : o.op = .call { callee := .builtin .copy, args := #[x, y], argTypes := #[t, t'] }) (ht : P.underlying t = some (.slice e)) (hs : (P.info? e).map (·.size) = some 1)
    (hp : pre n = some (.row 1 te k rows)) (hB : srcRows pre 1 sB = some (m, rows2)) (h1 : ∀ r ∈ rows2, ∀ u ∈ r, u.oneCell' = true) :
    OpOk P o [.own n, sB] pre (.v (.int .i64 (min m k : Nat))) (updH pre n (some (.row 1 te k (rows2.take k ++ rows.drop m)))) := by
  intro ρ D w a hr hS K Q hK
  rw [ho] at hr
  obtain ⟨r1, r2⟩ := reps_two (x := x) (y := y) hr
  obtain ⟨hy, hl, hlen2, hrl2⟩ := srcRows_ok hS hB r2
  obtain ⟨hpos, hrk, hown, hrl⟩ := hS.hold n _ hp
  have e1 : ρ n = a.eval x := by
    generalize a.eval x = u at r1
    cases r1; rfl
  have hcs : ∀ u ∈ rows2.flatten.take k, u.oneCell' = true := fun u hu => by
    obtain ⟨r, hr1, hr2⟩ := List.mem_flatten.1 (List.mem_of_mem_take hu)
    exact h1 r hr1 u hr2
  have hfl : rows.flatten.length = k := by rw [flat_len rows hrl, hrk]; omega
  have hsame : Nat.min m k = 0 → rows2.take k ++ rows.drop m = rows := fun h => by
    have : m = 0 ∨ k = 0 := by
      have h : min m k = 0 := h
      omega
    rcases this with rfl | rfl
    · rw [List.eq_nil_of_length_eq_zero hlen2]; simp
    · rw [List.eq_nil_of_length_eq_zero hrk]; simp
  have hcn : (rows2.flatten.take k).length = Nat.min m k := by
    rw [List.length_take, hl]
    show min k (m * 1) = min m k
    omega
  obtain ⟨base, cap, q1, q2, q3⟩ := hy
  unfold Oper.wp
  by_cases hz : Nat.min m k = 0
  · have hd : ∃ dp dLen dCap, a.eval x = .slice dp dLen dCap ∧ dLen = k := by
      rw [← e1]
      rcases hown.2 with ⟨q, qk⟩ | ⟨g, cap, cur, q, _⟩
      · exact ⟨_, _, _, q, qk.symm⟩
      · exact ⟨_, _, _, q, rfl⟩
    obtain ⟨dp, dLen, dCap, hd, rfl⟩ := hd
    have hrun := run_copy_none (P := P) w t t' o.type e dp base dLen dCap m cap ht hs hz
    have e2 : (execOp a.eval o).run P w = .ok (.value (goInt 0)) w := by
      unfold execOp
      simp only [ho, resolve, invoke, builtin, Sem.run_bind, Sem.run_pure, Result.andThen_ok, List.map_toArray, List.map_cons, List.map_nil, hd, q1, hrun]
    rw [e2]
    refine hK _ w ρ D ?_ ?_
    · rw [hsame hz]
      have e3 : updH pre n (some (.row 1 te dLen rows)) = pre := by
        funext q
        by_cases eq : q = n
        · rw [eq, updH_same, hp]
        · rw [updH_other _ _ eq]
      rw [e3]
      exact Step.refl hS
    · have : min m dLen = 0 := hz
      rw [this]; exact .v _
  · have hz' : ¬ min m k = 0 := hz
    rcases hown.2 with ⟨q, qk⟩ | ⟨g, dcap, cur, q, p2, p3, p4, p5, p6, p7⟩
    · omega
    · cases base with
      | none => have := q2 rfl; omega
      | some ad =>
        have hk : k ≤ cur.size := by omega
        have hrun := run_copy_row (P := P) w t t' o.type e g 0 k dcap ad m cap cur te (rows2.flatten.take k) ht hs p3 hcn (fun j v hj => q3 ad rfl j v (by
          rw [List.getElem?_take] at hj
          split at hj
          · exact hj
          · cases hj)) (by rw [hcn]; show 0 + min m k ≤ cur.size; omega) hcs
        have e2 : (execOp a.eval o).run P w = .ok (.value (goInt (rows2.flatten.take k).length)) (w.setRow g (cur.toList.take 0 ++ rows2.flatten.take k ++ cur.toList.drop (0 + (rows2.flatten.take k).length)).toArray) := by
          unfold execOp
          simp only [ho, resolve, invoke, builtin, Sem.run_bind, Sem.run_pure, Result.andThen_ok, List.map_toArray, List.map_cons, List.map_nil, ← e1, q, q1, hrun]
        rw [e2]
        have hcur : cur.toList = rows.flatten ++ cur.toList.drop k := by rw [← p7, Nat.mul_one, List.take_append_drop]
        have f2 : (rows2.take k).flatten = rows2.flatten.take k := by
          by_cases c : k ≤ rows2.length
          · rw [take_flat rows2 k hrl2 c, Nat.mul_one]
          · rw [List.take_of_length_le (by omega), List.take_of_length_le (by omega)]
        have f3 : (rows.drop m).flatten = rows.flatten.drop m := by
          by_cases c : m ≤ rows.length
          · have := take_flat rows m hrl c
            have h5 : rows.flatten = rows.flatten.take (m * 1) ++ (rows.drop m).flatten := by rw [← this, ← List.flatten_append, List.take_append_drop]
            have h6 := List.take_append_drop (m * 1) rows.flatten
            rw [← h6] at h5
            conv at h5 => rhs; rw [h6]
            rw [Nat.mul_one] at h5
            exact (List.append_cancel_left h5).symm
          · rw [List.drop_eq_nil_of_le (by omega), List.drop_eq_nil_of_le (by omega)]; rfl
        have hnew : cur.toList.take 0 ++ rows2.flatten.take k ++ cur.toList.drop (0 + (rows2.flatten.take k).length) = (rows2.take k ++ rows.drop m).flatten ++ cur.toList.drop k := by
          rw [List.flatten_append, f2, f3, hcn, List.take_zero, List.nil_append, Nat.zero_add, List.append_assoc]
          congr 1
          show cur.toList.drop (min m k) = _
          by_cases c : m ≤ k
          · rw [Nat.min_eq_left c]
            conv => lhs; rw [hcur]
            rw [List.drop_append_of_le_length (by omega)]
          · rw [Nat.min_eq_right (by omega), show rows.flatten.drop m = [] from List.drop_eq_nil_of_le (by omega), List.nil_append]
        have hlen' : (rows2.take k ++ rows.drop m).flatten.length = k := by
          rw [List.flatten_append, f2, f3, List.length_append, hcn, List.length_drop, hfl]
          show min m k + (k - m) = k
          omega
        refine hK _ _ ρ D (Step.chg hS (by rw [hp]; simp) (by rw [q]; rfl) rfl rfl rfl (by simp [World.setRow]) (fun m hm => setRow_other _ _ _ _ hm) ⟨hpos, by simp; omega, ⟨by omega, .inr ⟨g, dcap, _, q, Nat.zero_le _, setRow_heap _ _ _ _ _ _ p3, p4, p5, ?_, ?_⟩⟩, fun r hr => ?_⟩) ?_
        · have := congrArg List.length hcur
          rw [hnew]
          simp only [List.size_toArray, List.length_append, hlen']
          simp only [List.length_append, Array.length_toList, hfl] at this
          omega
        · rw [hnew]
          simp only
          rw [List.take_append_of_le_length (by omega), List.take_of_length_le (by omega)]
        · rcases List.mem_append.1 hr with h | h
          · exact hrl2 r (List.mem_of_mem_take h)
          · exact hrl r (List.mem_of_mem_drop h)
        · rw [hcn]; exact .v _

/-- An element, of one cell, of an array. -/
theorem ok_elem {t elem : TypeId} {x y : Operand} {len : Nat} {kd : IntKind} {i : Int} {cs : List AV} {av : AV} (ho : o.op = .index t x y) (ht : P.underlying t = some (.array len elem)) (hg : aggOf P elem = some none)
    (hi : 0 ≤ i ∧ i < (len : Int)) (hc : cs[i.toNat]? = some av) : OpOk P o [.agg cs, .v (.int kd i)] pre av pre := by
  refine ok_same fun ρ D w a hr _ => ?_
  rw [ho] at hr
  obtain ⟨r1, r2⟩ := reps_two (x := x) (y := y) hr
  generalize hu : a.eval x = u at r1
  generalize hv : a.eval y = v at r2
  cases r2
  obtain ⟨d, inf, h3, h4, h5, h6⟩ := aggOf_some hg
  cases r1 with
  | agg _ vs h =>
    obtain ⟨z, h7, h8⟩ := h.get _ _ hc
    refine ⟨z, ?_, h8⟩
    have hA : (isAgg elem).run P w = .ok false w := by rw [run_isAgg h3]; rw [h5]; rfl
    have hsz : inf.size = 1 := h6
    simp [execOp, ho, hu, hv, Instr.index, asIntOf, run_underlying ht, hi, sizeOf, typeInfo, h4, hsz, part, hA, h7]
end
end Go.Proofs.YtahobmjchppciaaDoor.Sx
