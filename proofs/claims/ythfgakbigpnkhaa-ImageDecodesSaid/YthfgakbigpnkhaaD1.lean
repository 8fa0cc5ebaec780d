/- What the functions of a chapter compute, as contracts; written by a program of this session. -/
import Derived.Test.YthfgakbigpnkhaaC2
import Derived.Test.YthfgakbigpnkhaaSx18
open Go Go.Proofs Go.RowKit
namespace Go.Proofs.Ythfgakbigpnkhaa.Sx.C3
set_option linter.unusedVariables false
set_option linter.unusedSimpArgs false
/-- The deferred call of image.Decode, where nothing has gone wrong. -/
theorem clo_idle (p q r : Value) (w : World) : CallsD Try.prog 19 #[p, q, r] .returning w fun e u' w' => e = .returned (.tuple #[]) ∧ u' = .returning ∧ w' = w := by
  refine callsD_of_wpS Try.func19 rfl fun c₀ cs hu => ?_
  apply wpS_seq
  apply wpS_region
  simp [wpOpsS, go_sem, recoverD, hu, Try.ntmps19, Exit.thenS]
  apply wpS_seq
  apply wpS_region
  simp [wpOpsS, go_sem, Exit.thenS]
  refine wpS_cond (t := false) (by simp [Act.eval, Array.replicate]) ?_
  simp only [Bool.false_eq_true, if_false]
  refine wpS_of_wp (wp_skip ?_)
  cases c₀
  simp_all [bodyPostS, results, Try.results19]
abbrev stopV (e at_ : Int) : Value := .iface 47 (.agg #[.int .i64 e, .int .i64 at_])
abbrev stopP (e at_ : Int) (r : Bool) : FrameMode := .panicking [{ v := stopV e at_, recovered := r }]
def cloH : HL := [(502, .cells [.junk, .junk, .junk, .junk, .junk, .junk] 27), (602, .cells [.junk] 28), (603, .cells [.junk] 3)]
def cloZ (e at_ : Int) : HL := [(502, .cells [.v (.int .i64 0), .v (.int .i64 0), .v (.int .i64 0), .v (.slice none 0 0), .v (.slice none 0 0), .v (.slice none 0 0)] 27), (602, .cells [.v (.int .i64 e)] 28), (603, .cells [.v (.int .i64 at_)] 3)]
/-- The deferred call of image.Decode, where a stop is on its way. -/
theorem clo_pan {ρ0 ρ : Names} {D0 D : Still} {w0 w : World} (hS : St (look (cloZ 0 0)) ρ0 D0 w0 (look cloH) ρ D w) {p q r : Value} (hp : Rep ρ D (.ptr 502 0) p) (hq : Rep ρ D (.ptr 602 0) q) (hr : Rep ρ D (.ptr 603 0) r) (e at_ : Int) :
    CallsD Try.prog 19 #[p, q, r] (stopP e at_ false) w fun en u' w' => en = .returned (.tuple #[]) ∧ u' = stopP e at_ true ∧ ∃ ρ' D', St (look (cloZ 0 0)) ρ0 D0 w0 (look (cloZ e at_)) ρ' D' w' := by
  refine callsD_of_wpS Try.func19 rfl fun c₀ cs hu => ?_
  apply wpS_seq
  apply wpS_region
  simp [wpOpsS, go_sem, recoverD, hu, Try.ntmps19, Exit.thenS]
  refine wpS_of_wp ?_
  have run : evCodeW Try.prog 22 (cloZ 0 0) [(2005, .nm 604)] (restOf Try.f19) [(0, .ptr 502 0), (1, .ptr 602 0), (2, .ptr 603 0), (3, .v (stopV e at_))] cloH [] (cloZ e at_) = some (List.map (·.2) ([] : TL), (cloZ e at_).map (fun x => some x.2), []) := by kernel_rfl
  refine evCode_sub (nt := ⟨22, []⟩) (p0 := cloZ 0 0) (hints := [(2005, .nm 604)]) (T := [(0, .ptr 502 0), (1, .ptr 602 0), (2, .ptr 603 0), (3, .v (stopV e at_))]) (H := cloH) (C := []) mixed [] (cloZ e at_) (c' := restOf Try.f19) (by kernel_rfl) run .nil ?_ (TRep.ofList ?_ ?_ ?_) hS
  · intro ρ' D' a' w' hT' hS'
    simp [bodyPostS, results, Try.results19, hT'.defers]
    exact ⟨ρ', D', hS'⟩
  · simp
  · rfl
  · intro x hx
    simp at hx
    rcases hx with rfl | rfl | rfl | rfl <;> simp
    · exact hp
    · exact hq
    · exact hr
    · exact .v _
/-- What a call of image.Decode has deferred. -/
abbrev door (ρ : Names) : List Deferred := [{ target := .fn (.func 19) #[ρ 502, ρ 602, ρ 603], args := #[] }]
def doorT : TL := [(2, .ptr 502 0), (3, .ptr 602 0), (4, .ptr 603 0)]
abbrev img6 (m s i : Int) (d f c : AV) : List AV := [.v (.int .i64 m), .v (.int .i64 s), .v (.int .i64 i), d, f, c]
theorem door_at {ρ0 ρ : Names} {D0 D : Still} {w0 w : World} {X : Hp} (hS : St (look (cloZ 0 0)) ρ0 D0 w0 X ρ D w) : ρ 502 = ρ0 502 ∧ ρ 602 = ρ0 602 ∧ ρ 603 = ρ0 603 :=
  ⟨hS.step.names 502 (by simp [cloZ, Go.Proofs.Ythfgakbigpnkhaa.Sx.look]), hS.step.names 602 (by simp [cloZ, Go.Proofs.Ythfgakbigpnkhaa.Sx.look]), hS.step.names 603 (by simp [cloZ, Go.Proofs.Ythfgakbigpnkhaa.Sx.look])⟩
theorem ptr_of {ρ : Names} {D : Still} {n : Nat} {v : Value} (h : Rep ρ D (.ptr n 0) v) : v = ρ n := by
  cases h with
  | ptr _ _ b hb => exact hb.symm
theorem ptr_mk {ρ ρ' : Names} {D D' : Still} {n : Nat} {v : Value} (h : Rep ρ D (.ptr n 0) v) (e : ρ' n = ρ n) : Rep ρ' D' (.ptr n 0) v := by
  cases h with
  | ptr _ _ b hb => exact .ptr _ _ _ (e.trans hb)
theorem door_ptr {ρ0 : Names} {D : Still} {w : World} {n : Nat} {mine : Nat → Prop} {H : Hp} (h : Sat mine ρ0 D H w) {cs : List AV} {t : TypeId} (hn : H n = some (.cells cs t)) : Rep ρ0 D (.ptr n 0) (ρ0 n) := by
  obtain ⟨b, vs, h1, h2⟩ := h.hold n _ hn
  have := Rep.ptr (ρ := ρ0) (D := D) n 0 b h1
  rwa [← h1] at this
theorem door_pan {ρ0 ρ1 : Names} {D0 D1 : Still} {w0 w1 : World} (h1 : St (look []) ρ0 D0 w0 (look (cloZ 0 0)) ρ1 D1 w1) {e at_ : Int} {WH : HL} (hl : LeH WH cloH) : ∀ ρ D a w v, TRep ⟨Try.f10.ntmps, door ρ1⟩ ρ D (getT doorT) a → St (look (cloZ 0 0)) ρ1 D1 w1 (look WH) ρ D w → Rep ρ D (.ifc 47 (.agg [.v (.int .i64 e), .v (.int .i64 at_)])) v →
    Leaves Try.prog Try.f10 a.tmps (Owes (look []) false (.tup [.agg (img6 0 0 0 (.v (.slice none 0 0)) (.v (.slice none 0 0)) (.v (.slice none 0 0))), .v (.int .i64 e), .v (.int .i64 at_)]) (look []) ρ0 D0 w0) (door ρ1) (.panicking [{ v := v, recovered := false }]) w := by
  intro ρ D a w v hT hS hv
  have hv : v = stopV e at_ := by
    cases hv with
    | ifc _ _ _ hv => cases hv with
      | agg _ _ hv => cases hv with
        | cons h1 h2 => cases h1; cases h2 with
          | cons h1 h2 => cases h1; cases h2; rfl
  subst hv
  have hS' := hS.le hl
  obtain ⟨n1, n2, n3⟩ := door_at hS
  have p1 := door_ptr hS'.step.sat (n := 502) rfl
  have p2 := door_ptr hS'.step.sat (n := 602) rfl
  have p3 := door_ptr hS'.step.sat (n := 603) rfl
  rw [n1] at p1; rw [n2] at p2; rw [n3] at p3
  refine leaves_cons (f := 19) (args := #[ρ1 502, ρ1 602, ρ1 603]) (by simp) (by simp [go_sem]) ?_
  refine (clo_pan hS' p1 p2 p3 e at_).mono ?_
  rintro en u' w' ⟨rfl, rfl, ρ', D', h2⟩
  obtain ⟨m1, m2, m3⟩ := door_at h2
  have hT' : TRep ⟨Try.f10.ntmps, door ρ1⟩ ρ' D' (getT doorT) a := by
    refine TRep.ofList hT.size hT.defers fun x hx => ?_
    simp only [doorT, List.mem_cons, List.not_mem_nil, or_false] at hx
    rcases hx with rfl | rfl | rfl
    · exact ptr_mk (hT.reps 2 (by simp [Try.ntmps10])) (m1.trans n1.symm)
    · exact ptr_mk (hT.reps 3 (by simp [Try.ntmps10])) (m2.trans n2.symm)
    · exact ptr_mk (hT.reps 4 (by simp [Try.ntmps10])) (m3.trans n3.symm)
  obtain ⟨v, h3, h4⟩ := results_run (P := Try.prog) (fn := Try.f10) (H := cloZ e at_) («as» := [.agg (img6 0 0 0 (.v (.slice none 0 0)) (.v (.slice none 0 0)) (.v (.slice none 0 0))), .v (.int .i64 e), .v (.int .i64 at_)]) (by kernel_rfl) hT' h2.step.sat
  exact ⟨v, h3, owes_nil h1 h2 h4 fun n => rfl⟩
theorem door_ret {ρ0 ρ1 : Names} {D0 D1 : Still} {w0 w1 : World} (h1 : St (look []) ρ0 D0 w0 (look (cloZ 0 0)) ρ1 D1 w1) {m s i : Int} {d f c : AV} (hu : ∀ n, AV.uses n (.agg (img6 m s i d f c)) = false) : ∀ ρ D a w, TRep ⟨Try.f10.ntmps, door ρ1⟩ ρ D (getT doorT) a → St (look (cloZ 0 0)) ρ1 D1 w1 (look [(502, .cells (img6 m s i d f c) 27), (602, .cells [.v (.int .i64 0)] 28), (603, .cells [.v (.int .i64 0)] 3)]) ρ D w →
    Leaves Try.prog Try.f10 a.tmps (Owes (look []) false (.tup [.agg (img6 m s i d f c), .v (.int .i64 0), .v (.int .i64 0)]) (look []) ρ0 D0 w0) (door ρ1) .returning w := by
  intro ρ D a w hT hS
  refine leaves_cons (f := 19) (args := #[ρ1 502, ρ1 602, ρ1 603]) (by simp) (by simp [go_sem]) ?_
  refine (clo_idle _ _ _ _).mono ?_
  rintro en u' w' ⟨rfl, rfl, rfl⟩
  obtain ⟨v, h3, h4⟩ := results_run (P := Try.prog) (fn := Try.f10) (H := [(502, .cells (img6 m s i d f c) 27), (602, .cells [.v (.int .i64 0)] 28), (603, .cells [.v (.int .i64 0)] 3)]) («as» := [.agg (img6 m s i d f c), .v (.int .i64 0), .v (.int .i64 0)]) (by kernel_rfl) hT hS.step.sat
  exact ⟨v, h3, owes_nil h1 hS h4 fun n => by simpa [AV.uses, AV.uses.usesL] using hu n⟩
end Go.Proofs.Ythfgakbigpnkhaa.Sx.C3
