/- Layer 2's law CodeNames: the names and numbers of operations are just the document's, each tells the other, and so is whether what is behind may come next; for every number and every name. -/
import Derived.Test.YtmgfmabmliphfaaPCodeNamesx5
namespace Go.Proofs.Ytmgfmabmliphfaa.Pure
open Go.RowKit Go.Proofs.Ytmgfmabmliphfaa.PCodeNames Go.Proofs.YtmgfmabmliphfaaW.PrintWords Go.Proofs.YtmgfmabmliphfaaW.PrintLast

theorem ba_eq {a b : ByteArray} : a.toList = b.toList ↔ a = b := by
  constructor
  · intro h
    rw [ByteArray.toList_eq, ByteArray.toList_eq] at h
    obtain ⟨a⟩ := a
    obtain ⟨b⟩ := b
    have : a = b := Array.toList_inj.1 h
    rw [this]
  · rintro rfl; rfl

def fs : List S47 := (code_forms.f).getD []
def nm : List ByteArray := (backreachref02_names.f).getD []
theorem forms_eq : code_forms.f = some fs := rfl
theorem names_eq : backreachref02_names.f = some nm := rfl
theorem fs_len : fs.length = 26 := rfl
theorem nm_len : nm.length = 26 := rfl
theorem fs_nm (i : Int) : (rd_T47 fs i).f0 = rdOf ByteArray.empty nm i := by
  unfold rd_T47 rdOf
  have h : nm = fs.map S47.f0 := rfl
  rw [h, List.getD_eq_getElem?_getD, List.getD_eq_getElem?_getD, List.getElem?_map]
  cases fs[i.toNat]? <;> rfl

theorem op_loop (x : ByteArray) (d : Nat) : ∀ (i k : Nat), i + d = 26 → d < k →
    ∃ r, code_Op.l0 k x fs 26 i = some r ∧ backreachref02_Op.l0 k x nm i = some r ∧ ((r = (0, false) ∧ ∀ j : Nat, i ≤ j → j < 26 → rdOf ByteArray.empty nm j ≠ x) ∨ ∃ j : Nat, j < 26 ∧ r = ((j : Int), true) ∧ rdOf ByteArray.empty nm j = x) := by
  induction d with
  | zero =>
    intro i k hi hk
    obtain ⟨k, rfl⟩ : ∃ m, k = m + 1 := ⟨k - 1, by omega⟩
    refine ⟨(0, false), ?_, ?_, .inl ⟨rfl, fun j h1 h2 => by omega⟩⟩
    · simp only [code_Op.l0]; rw [if_neg (by omega)]
    · simp only [backreachref02_Op.l0]; rw [nm_len, if_neg (by omega)]
  | succ d ih =>
    intro i k hi hk
    obtain ⟨k, rfl⟩ : ∃ m, k = m + 1 := ⟨k - 1, by omega⟩
    have hw : wrap64 ((i : Int) + 1) = ((i + 1 : Nat) : Int) := by unfold wrap64; omega
    by_cases h : rdOf ByteArray.empty nm i = x
    · refine ⟨((i : Int), true), ?_, ?_, .inr ⟨i, by omega, rfl, h⟩⟩
      · simp only [code_Op.l0]; rw [fs_len, if_pos (by omega), if_pos (by omega), if_pos (by omega), if_pos (ba_eq.2 (by rw [fs_nm]; exact h))]
      · simp only [backreachref02_Op.l0]; rw [nm_len, if_pos (by omega), if_pos (by omega), if_pos (ba_eq.2 h)]
    · obtain ⟨r, h1, h2, h3⟩ := ih (i + 1) k (by omega) (by omega)
      refine ⟨r, ?_, ?_, h3.imp (fun ⟨e, f⟩ => ⟨e, fun j hj1 hj2 => ?_⟩) id⟩
      rotate_left 2
      · by_cases e : j = i
        · subst e; exact h
        · exact f j (by omega) hj2
      · simp only [code_Op.l0]; rw [fs_len, if_pos (by omega), if_pos (by omega), if_pos (by omega), if_neg (fun e => h (by rw [← fs_nm]; exact ba_eq.1 e)), hw]; exact h1
      · simp only [backreachref02_Op.l0]; rw [nm_len, if_pos (by omega), if_pos (by omega), if_neg (fun e => h (ba_eq.1 e)), hw]; exact h2

theorem op_both (x : ByteArray) (k : Nat) (hk : 30 ≤ k) :
    ∃ r, code_Op.f k x = some r ∧ backreachref02_Op.f k x = some r ∧ ((r = (0, false) ∧ ∀ j : Nat, j < 26 → rdOf ByteArray.empty nm j ≠ x) ∨ ∃ j : Nat, j < 26 ∧ r = ((j : Int), true) ∧ rdOf ByteArray.empty nm j = x) := by
  obtain ⟨r, h1, h2, h3⟩ := op_loop x 26 0 k (by omega) (by omega)
  refine ⟨r, ?_, ?_, h3.imp (fun ⟨e, f⟩ => ⟨e, fun j hj => f j (by omega) hj⟩) id⟩
  · unfold code_Op.f; rw [forms_eq, Option.bind_some, fs_len]; exact h1
  · unfold backreachref02_Op.f; rw [names_eq, Option.bind_some]; exact h2

theorem name_eq (a : Int) : code_Name.f a = backreachref02_Name.f a ∧ code_Name.f a = some (if 0 ≤ a ∧ a ≤ 25 then rdOf ByteArray.empty nm a else ⟨#[]⟩) := by
  unfold code_Name.f backreachref02_Name.f code_known.f
  rw [forms_eq, names_eq]
  by_cases h0 : a < 0
  · rw [if_neg (show ¬ a ≥ 0 by omega), if_pos h0]; simp [show ¬ (0 ≤ a ∧ a ≤ 25) by omega]
  · by_cases h1 : a > 25
    · rw [if_pos (show a ≥ 0 by omega), if_neg h0, if_pos h1, decide_eq_false (show ¬ a ≤ 25 by omega)]; simp [show ¬ (0 ≤ a ∧ a ≤ 25) by omega]
    · rw [if_pos (show a ≥ 0 by omega), if_neg h0, if_neg h1, decide_eq_true (show a ≤ 25 by omega)]
      have hf : a < (fs.length : Int) := by rw [fs_len]; omega
      have hn : a < (nm.length : Int) := by rw [nm_len]; omega
      simp only [Option.bind_some, if_true]
      rw [if_pos (show 0 ≤ a by omega), if_pos hf, if_pos (show 0 ≤ a by omega), if_pos hn, if_pos (show 0 ≤ a ∧ a ≤ 25 by omega), fs_nm]
      exact ⟨rfl, rfl⟩

theorem goes_eq (a : Int) : ∃ b, code_Goes.f a = some b ∧ backreachref02_Goes.f a = some b := by
  unfold code_Goes.f backreachref02_Goes.f code_known.f
  by_cases h0 : a ≥ 0
  · by_cases h1 : a ≤ 25
    · by_cases e0 : a = 0
      · exact ⟨false, by rw [if_pos e0], by rw [if_pos h0, if_pos h1, if_pos e0]⟩
      · by_cases e1 : a = 21
        · exact ⟨false, by rw [if_neg e0, if_pos e1], by rw [if_pos h0, if_pos h1, if_neg e0, if_pos e1]⟩
        · by_cases e2 : a = 24
          · exact ⟨false, by rw [if_neg e0, if_neg e1, if_pos e2], by rw [if_pos h0, if_pos h1, if_neg e0, if_neg e1, if_pos e2]⟩
          · by_cases e3 : a = 25
            · exact ⟨false, by rw [if_neg e0, if_neg e1, if_neg e2, if_pos e3], by rw [if_pos h0, if_pos h1, if_neg e0, if_neg e1, if_neg e2, e3]; rfl⟩
            · refine ⟨true, ?_, ?_⟩
              · rw [if_neg e0, if_neg e1, if_neg e2, if_neg e3, if_pos h0, decide_eq_true h1]; rfl
              · rw [if_pos h0, if_pos h1, if_neg e0, if_neg e1, if_neg e2, show (a != 25) = true from bne_iff_ne.2 e3]
    · refine ⟨false, ?_, by rw [if_pos h0, if_neg h1]⟩
      rw [if_neg (by omega), if_neg (by omega), if_neg (by omega), if_neg (by omega), if_pos h0, decide_eq_false h1]; rfl
  · refine ⟨false, ?_, by rw [if_neg h0]⟩
    rw [if_neg (by omega), if_neg (by omega), if_neg (by omega), if_neg (by omega), if_neg h0]; rfl

theorem awake_40 : backreachlaw02_awake.f 40 = some true := by decide +kernel
theorem names_apart : ∀ j : Fin 26, ∀ i : Fin 26, rdOf ByteArray.empty nm (j.val : Int) = rdOf ByteArray.empty nm (i.val : Int) → j = i := by decide +kernel
theorem names_not_empty : ∀ j : Fin 26, rdOf ByteArray.empty nm (j.val : Int) ≠ ⟨#[]⟩ := by decide +kernel

theorem CodeNames : backreachlaw02_CodeNames.Pure := by
  intro a0 a1 _ _
  refine ⟨41, ?_⟩
  unfold backreachlaw02_CodeNames.f
  rw [at_rounds backreachlaw02_awake.mono (show 40 ≤ 41 by omega) awake_40]
  simp only [Option.bind_some, if_true]
  by_cases hs : (a1.size : Int) > 1000
  · rw [if_pos hs]
  · rw [if_neg hs]
    obtain ⟨r, h1, h2, h3⟩ := op_both a1 41 (by omega)
    obtain ⟨b, g1, g2⟩ := goes_eq a0
    obtain ⟨n1, n2⟩ := name_eq a0
    rw [h1, h2]
    simp only [Option.bind_some]
    rw [if_pos trivial, if_neg (by simp), ← n1, n2, g1, g2]
    simp only [Option.bind_some, if_true]
    simp only [backreachlaw02_CodeNames.j0]
    rw [if_neg (by simp), n2]
    simp only [Option.bind_some]
    obtain ⟨q, q1, _, q3⟩ := op_both (if 0 ≤ a0 ∧ a0 ≤ 25 then rdOf ByteArray.empty nm a0 else ⟨#[]⟩) 40 (by omega)
    rw [q1]
    simp only [Option.bind_some]
    have tail : (if (if 0 ≤ a0 ∧ a0 ≤ 25 then rdOf ByteArray.empty nm a0 else ⟨#[]⟩ : ByteArray).toList = ([] : List UInt8) then (some true) else (if q.2 = true then (some (q.1 == a0)) else (some false))) = some true := by
      by_cases hr : 0 ≤ a0 ∧ a0 ≤ 25
      · rw [if_pos hr] at q3 ⊢
        obtain ⟨j, rfl⟩ : ∃ j : Nat, a0 = j := ⟨a0.toNat, by omega⟩
        have hne := names_not_empty ⟨j, by omega⟩
        rcases q3 with ⟨rfl, hn⟩ | ⟨i, hi, rfl, he⟩
        · exact absurd rfl (hn j (by omega))
        · have := names_apart ⟨i, hi⟩ ⟨j, by omega⟩ he
          have : i = j := congrArg Fin.val this
          subst this
          simp
      · rw [if_neg hr, if_pos (by rw [ByteArray.toList_eq])]
    rcases h3 with ⟨rfl, _⟩ | ⟨j, hj, rfl, he⟩
    · rw [if_neg (by simp)]; exact tail
    · obtain ⟨m1, m2⟩ := name_eq j
      rw [if_pos rfl]
      simp only []
      rw [m2]
      simp only [Option.bind_some]
      rw [if_pos (show 0 ≤ (j : Int) ∧ (j : Int) ≤ 25 by omega), he, if_pos rfl]
      exact tail

end Go.Proofs.Ytmgfmabmliphfaa.Pure
