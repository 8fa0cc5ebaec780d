/- What a Go function computes on most of its ways, and the walk: written by a program of this session (a turned copy of the kit's print). -/
import Derived.Test.YtidabafobpbniaaGq
import Derived.Test.YtidabafobpbniaaV9
import Derived.Test.YtidabafobpbniaaPx0
import Derived.Test.YtidabafobpbniaaPx1
import Derived.Test.YtidabafobpbniaaPx12
import Derived.Test.YtidabafobpbniaaPx4
import Derived.Test.YtidabafobpbniaaPx14
import Derived.Test.YtidabafobpbniaaPx17
import Derived.Test.YtidabafobpbniaaPx3
namespace Go.Proofs.Ytidabafobpbniaa.P
open Go.RowKit Go.Proofs.YtidabafobpbniaaW.PrintWords Go.Proofs.YtidabafobpbniaaW.PrintLast Go.Proofs.YtidabafobpbniaaW.PrintMore
attribute [local go_sem] max2_int min2_int max_two min_two max_three min_three max_four min_four   -- for this text's walks alone
set_option linter.unusedVariables false
set_option linter.unusedSimpArgs false
attribute [local go_sem high] eqA24
abbrev backreachlaw11_SpanMeets.M0 : Array Bool := #[false, false, false, false, false, false, false, false, false, false, false, false, false, false, false, false, false, false, false, false, false, false, false, false, false, false, false, false, false, false, false]
abbrev backreachlaw11_SpanMeets.M1 : Array Bool := #[false, false, false, false, false, false, false, false, false, false, false, false, false, false, false, false, false, false, false, false, false, false, false, false, false, false, false, false, false, false]
abbrev backreachlaw11_SpanMeets.M2 : Array Bool := #[false, false, false, false, false, false, false, false, false, false]
abbrev backreachlaw11_SpanMeets.M3 : Array Bool := #[true, false, false, false, false, false, false, false, false, false, false, false, false, false, false, false, false, false, false, false, false, false, false, false, false, false, false, false, false, false, false]
abbrev backreachlaw11_SpanMeets.M4 : Array Bool := #[true, false, false, false, false, false, false, false, false, false, false, false, false, false, false, false, false, false, false, false, false, false, false, false, false, false, false, false, false, false]
abbrev backreachlaw11_SpanMeets.M5 : Array Bool := #[true, false, false, false, false, false, false, false, false, false]
abbrev backreachlaw11_SpanMeets.M6 : Array Bool := #[true, false, true, false, false, false, false, false, false, false]
abbrev backreachlaw11_SpanMeets.M7 : Array Bool := #[true, false, true, false, true, false, false, false, false, false]
abbrev backreachlaw11_SpanMeets.M8 : Array Bool := #[true, false, true, false, true, false, true, false, false, false]
abbrev backreachlaw11_SpanMeets.M9 : Array Bool := #[true, true, false, false, false, false, false, false, false, false, false, false, false, false, false, false, false, false, false, false, false, false, false, false, false, false, false, false, false, false, false]
abbrev backreachlaw11_SpanMeets.M10 : Array Bool := #[true, true, false, false, false, false, false, false, false, false, false, false, false, false, false, false, false, false, false, false, false, false, false, false, false, false, false, false, false, false]
abbrev backreachlaw11_SpanMeets.M11 : Array Bool := #[true, true, true, false, false, false, false, false, false, false, false, false, false, false, false, false, false, false, false, false, false, false, false, false, false, false, false, false, false, false, false]
abbrev backreachlaw11_SpanMeets.M12 : Array Bool := #[true, true, true, false, false, false, false, false, false, false, false, false, false, false, false, false, false, false, false, false, false, false, false, false, false, false, false, false, false, false]
abbrev backreachlaw11_SpanMeets.M13 : Array Bool := #[true, true, true, false, true, false, true, false, false, false]
abbrev backreachlaw11_SpanMeets.M14 : Array Bool := #[true, true, true, false, true, true, true, false, false, false]
abbrev backreachlaw11_SpanMeets.M15 : Array Bool := #[true, true, true, true, false, false, false, false, false, false, false, false, false, false, false, false, false, false, false, false, false, false, false, false, false, false, false, false, false, false, false]
abbrev backreachlaw11_SpanMeets.M16 : Array Bool := #[true, true, true, true, false, false, false, false, false, false, false, false, false, false, false, false, false, false, false, false, false, false, false, false, false, false, false, false, false, false]
abbrev backreachlaw11_SpanMeets.M17 : Array Bool := #[true, true, true, true, true, false, false, false, false, false, false, false, false, false, false, false, false, false, false, false, false, false, false, false, false, false, false, false, false, false, false]
abbrev backreachlaw11_SpanMeets.M18 : Array Bool := #[true, true, true, true, true, false, false, false, false, false, false, false, false, false, false, false, false, false, false, false, false, false, false, false, false, false, false, false, false, false]
abbrev backreachlaw11_SpanMeets.M19 : Array Bool := #[true, true, true, true, true, true, false, false, false, false, false, false, false, false, false, false, false, false, false, false, false, false, false, false, false, false, false, false, false, false, false]
abbrev backreachlaw11_SpanMeets.M20 : Array Bool := #[true, true, true, true, true, true, false, false, false, false, false, false, false, false, false, false, false, false, false, false, false, false, false, false, false, false, false, false, false, false]
abbrev backreachlaw11_SpanMeets.M21 : Array Bool := #[true, true, true, true, true, true, true, false, false, false, false, false, false, false, false, false, false, false, false, false, false, false, false, false, false, false, false, false, false, false, false]
abbrev backreachlaw11_SpanMeets.M22 : Array Bool := #[true, true, true, true, true, true, true, false, false, false, false, false, false, false, false, false, false, false, false, false, false, false, false, false, false, false, false, false, false, false]
abbrev backreachlaw11_SpanMeets.M23 : Array Bool := #[true, true, true, true, true, true, true, false, false, false]
abbrev backreachlaw11_SpanMeets.M24 : Array Bool := #[true, true, true, true, true, true, true, true, false, false, false, false, false, false, false, false, false, false, false, false, false, false, false, false, false, false, false, false, false, false, false]
abbrev backreachlaw11_SpanMeets.M25 : Array Bool := #[true, true, true, true, true, true, true, true, false, false, false, false, false, false, false, false, false, false, false, false, false, false, false, false, false, false, false, false, false, false]
abbrev backreachlaw11_SpanMeets.M26 : Array Bool := #[true, true, true, true, true, true, true, true, false, false]
abbrev backreachlaw11_SpanMeets.M27 : Array Bool := #[true, true, true, true, true, true, true, true, false, true, false, false, false, false, false, false, false, false, false, false, false, false, false, false, false, false, false, false, false, false, false]
abbrev backreachlaw11_SpanMeets.M28 : Array Bool := #[true, true, true, true, true, true, true, true, true, false, false, false, false, false, false, false, false, false, false, false, false, false, false, false, false, false, false, false, false, false, false]
abbrev backreachlaw11_SpanMeets.M29 : Array Bool := #[true, true, true, true, true, true, true, true, true, false, false, false, false, false, false, false, false, false, false, false, false, false, false, false, false, false, false, false, false, false]
abbrev backreachlaw11_SpanMeets.M30 : Array Bool := #[true, true, true, true, true, true, true, true, true, false, true, false, false, false, false, false, false, false, false, false, false, false, false, false, false, false, false, false, false, false]
abbrev backreachlaw11_SpanMeets.M31 : Array Bool := #[true, true, true, true, true, true, true, true, true, false]
abbrev backreachlaw11_SpanMeets.M32 : Array Bool := #[true, true, true, true, true, true, true, true, true, true, false, false, false, false, false, false, false, false, false, false, false, false, false, false, false, false, false, false, false, false, false]
abbrev backreachlaw11_SpanMeets.M33 : Array Bool := #[true, true, true, true, true, true, true, true, true, true, false, false, false, false, false, false, false, false, false, false, false, false, false, false, false, false, false, false, false, false]
abbrev backreachlaw11_SpanMeets.M34 : Array Bool := #[true, true, true, true, true, true, true, true, true, true, true, false, false, false, false, false, false, false, false, false, false, false, false, false, false, false, false, false, false, false, false]
abbrev backreachlaw11_SpanMeets.M35 : Array Bool := #[true, true, true, true, true, true, true, true, true, true, true, false, false, false, false, false, false, false, false, false, false, false, false, false, false, false, false, false, false, false]
abbrev backreachlaw11_SpanMeets.M36 : Array Bool := #[true, true, true, true, true, true, true, true, true, true, true, true, false, false, false, false, false, false, false, false, false, false, false, false, false, false, false, false, false, false, false]
abbrev backreachlaw11_SpanMeets.M37 : Array Bool := #[true, true, true, true, true, true, true, true, true, true, true, true, false, false, false, false, false, false, false, false, false, false, false, false, false, false, false, false, false, false]
abbrev backreachlaw11_SpanMeets.M38 : Array Bool := #[true, true, true, true, true, true, true, true, true, true, true, true, true, false, false, false, false, false, false, false, false, false, false, false, false, false, false, false, false, false, false]
abbrev backreachlaw11_SpanMeets.M39 : Array Bool := #[true, true, true, true, true, true, true, true, true, true, true, true, true, false, false, false, false, false, false, false, false, false, false, false, false, false, false, false, false, false]
abbrev backreachlaw11_SpanMeets.M40 : Array Bool := #[true, true, true, true, true, true, true, true, true, true, true, true, true, true, false, false, false, false, false, false, false, false, false, false, false, false, false, false, false, false, false]
abbrev backreachlaw11_SpanMeets.M41 : Array Bool := #[true, true, true, true, true, true, true, true, true, true, true, true, true, true, false, false, false, false, false, false, false, false, false, false, false, false, false, false, false, false]
abbrev backreachlaw11_SpanMeets.M42 : Array Bool := #[true, true, true, true, true, true, true, true, true, true, true, true, true, true, false, true, false, false, false, false, false, false, false, false, false, false, false, false, false, false, false]
abbrev backreachlaw11_SpanMeets.M43 : Array Bool := #[true, true, true, true, true, true, true, true, true, true, true, true, true, true, true, false, false, false, false, false, false, false, false, false, false, false, false, false, false, false]
abbrev backreachlaw11_SpanMeets.M44 : Array Bool := #[true, true, true, true, true, true, true, true, true, true, true, true, true, true, true, true, false, false, false, false, false, false, false, false, false, false, false, false, false, false, false]
abbrev backreachlaw11_SpanMeets.M45 : Array Bool := #[true, true, true, true, true, true, true, true, true, true, true, true, true, true, true, true, false, false, false, false, false, false, false, false, false, false, false, false, false, false]
abbrev backreachlaw11_SpanMeets.M46 : Array Bool := #[true, true, true, true, true, true, true, true, true, true, true, true, true, true, true, true, true, false, false, false, false, false, false, false, false, false, false, false, false, false, false]
abbrev backreachlaw11_SpanMeets.M47 : Array Bool := #[true, true, true, true, true, true, true, true, true, true, true, true, true, true, true, true, true, false, false, false, false, false, false, false, false, false, false, false, false, false]
abbrev backreachlaw11_SpanMeets.M48 : Array Bool := #[true, true, true, true, true, true, true, true, true, true, true, true, true, true, true, true, true, true, false, false, false, false, false, false, false, false, false, false, false, false, false]
abbrev backreachlaw11_SpanMeets.M49 : Array Bool := #[true, true, true, true, true, true, true, true, true, true, true, true, true, true, true, true, true, true, false, false, false, false, false, false, false, false, false, false, false, false]
abbrev backreachlaw11_SpanMeets.M50 : Array Bool := #[true, true, true, true, true, true, true, true, true, true, true, true, true, true, true, true, true, true, true, false, false, false, false, false, false, false, false, false, false, false, false]
abbrev backreachlaw11_SpanMeets.M51 : Array Bool := #[true, true, true, true, true, true, true, true, true, true, true, true, true, true, true, true, true, true, true, false, false, false, false, false, false, false, false, false, false, false]
abbrev backreachlaw11_SpanMeets.M52 : Array Bool := #[true, true, true, true, true, true, true, true, true, true, true, true, true, true, true, true, true, true, true, true, false, false, false, false, false, false, false, false, false, false, false]
abbrev backreachlaw11_SpanMeets.M53 : Array Bool := #[true, true, true, true, true, true, true, true, true, true, true, true, true, true, true, true, true, true, true, true, false, false, false, false, false, false, false, false, false, false]
abbrev backreachlaw11_SpanMeets.M54 : Array Bool := #[true, true, true, true, true, true, true, true, true, true, true, true, true, true, true, true, true, true, true, true, true, false, false, false, false, false, false, false, false, false, false]
abbrev backreachlaw11_SpanMeets.M55 : Array Bool := #[true, true, true, true, true, true, true, true, true, true, true, true, true, true, true, true, true, true, true, true, true, false, false, false, false, false, false, false, false, false]
abbrev backreachlaw11_SpanMeets.M56 : Array Bool := #[true, true, true, true, true, true, true, true, true, true, true, true, true, true, true, true, true, true, true, true, true, true, false, false, false, false, false, false, false, false, false]
abbrev backreachlaw11_SpanMeets.M57 : Array Bool := #[true, true, true, true, true, true, true, true, true, true, true, true, true, true, true, true, true, true, true, true, true, true, false, false, false, false, false, false, false, false]
abbrev backreachlaw11_SpanMeets.M58 : Array Bool := #[true, true, true, true, true, true, true, true, true, true, true, true, true, true, true, true, true, true, true, true, true, true, true, false, false, false, false, false, false, false, false]
abbrev backreachlaw11_SpanMeets.M59 : Array Bool := #[true, true, true, true, true, true, true, true, true, true, true, true, true, true, true, true, true, true, true, true, true, true, true, false, false, false, false, false, false, false]
abbrev backreachlaw11_SpanMeets.M60 : Array Bool := #[true, true, true, true, true, true, true, true, true, true, true, true, true, true, true, true, true, true, true, true, true, true, true, false, true, false, false, false, false, false, false]
abbrev backreachlaw11_SpanMeets.M61 : Array Bool := #[true, true, true, true, true, true, true, true, true, true, true, true, true, true, true, true, true, true, true, true, true, true, true, true, false, false, false, false, false, false]
abbrev backreachlaw11_SpanMeets.M62 : Array Bool := #[true, true, true, true, true, true, true, true, true, true, true, true, true, true, true, true, true, true, true, true, true, true, true, true, false, true, false, false, false, false]
abbrev backreachlaw11_SpanMeets.M63 : Array Bool := #[true, true, true, true, true, true, true, true, true, true, true, true, true, true, true, true, true, true, true, true, true, true, true, true, true, false, false, false, false, false, false]
abbrev backreachlaw11_SpanMeets.M64 : Array Bool := #[true, true, true, true, true, true, true, true, true, true, true, true, true, true, true, true, true, true, true, true, true, true, true, true, true, false, false, false, false, false]
abbrev backreachlaw11_SpanMeets.M65 : Array Bool := #[true, true, true, true, true, true, true, true, true, true, true, true, true, true, true, true, true, true, true, true, true, true, true, true, true, true, false, false, false, false, false]
abbrev backreachlaw11_SpanMeets.M66 : Array Bool := #[true, true, true, true, true, true, true, true, true, true, true, true, true, true, true, true, true, true, true, true, true, true, true, true, true, true, false, false, false, false]
abbrev backreachlaw11_SpanMeets.M67 : Array Bool := #[true, true, true, true, true, true, true, true, true, true, true, true, true, true, true, true, true, true, true, true, true, true, true, true, true, true, true, false, false, false, false]
abbrev backreachlaw11_SpanMeets.M68 : Array Bool := #[true, true, true, true, true, true, true, true, true, true, true, true, true, true, true, true, true, true, true, true, true, true, true, true, true, true, true, false, false, false]
abbrev backreachlaw11_SpanMeets.M69 : Array Bool := #[true, true, true, true, true, true, true, true, true, true, true, true, true, true, true, true, true, true, true, true, true, true, true, true, true, true, true, true, false, false, false]
abbrev backreachlaw11_SpanMeets.M70 : Array Bool := #[true, true, true, true, true, true, true, true, true, true, true, true, true, true, true, true, true, true, true, true, true, true, true, true, true, true, true, true, false, false]
abbrev backreachlaw11_SpanMeets.M71 : Array Bool := #[true, true, true, true, true, true, true, true, true, true, true, true, true, true, true, true, true, true, true, true, true, true, true, true, true, true, true, true, true, false, false]
abbrev backreachlaw11_SpanMeets.M72 : Array Bool := #[true, true, true, true, true, true, true, true, true, true, true, true, true, true, true, true, true, true, true, true, true, true, true, true, true, true, true, true, true, false]
abbrev backreachlaw11_SpanMeets.M73 : Array Bool := #[true, true, true, true, true, true, true, true, true, true, true, true, true, true, true, true, true, true, true, true, true, true, true, true, true, true, true, true, true, true, false]
abbrev backreachlaw11_SpanMeets.M74 : Array Bool := #[true, true, true, true, true, true, true, true, true, true, true, true, true, true, true, true, true, true, true, true, true, true, true, true, true, true, true, true, true, true, true]
abbrev backreachlaw11_SpanMeets.M75 : Array Bool := #[true, true, true, true, true, true, true, true, true, true, true, true, true, true, true, true, true, true, true, true, true, true, true, true, true, true, true, true, true, true]
abbrev backreachlaw11_SpanMeets.M76 : Array Bool := #[true, true, true, true, true, true, true, true, true, true]
/-! ### backreachlaw11_SpanMeets: function 7 -/
def backreachlaw11_SpanMeets.j0 : Nat → Int → Int → Bool → Bool → Bool → Int → Int → Int → Int → Int → Int → Option (Bool)
 | 0, _, _, _, _, _, _, _, _, _, _, _ => none
 | k + 1, x0, x3, x14, x15, x73, x193000, x193001, x194000, x194001, x206000, x206001 => if x73 = true then (some false) else (if x14 = true then ((span_Has.f x0 x206000 x206001 x3).bind fun t212 => (if t212 = true then ((span_Right.f x0 x193000 x193001).bind fun bt213 => ((span_Has.f x0 x206000 x206001 bt213.1).bind fun t215 => (if t215 = true then ((span_Right.f x0 x194000 x194001).bind fun bt216 => ((span_Has.f x0 x206000 x206001 bt216.2).bind fun t218 => (some t218))) else (some false)))) else (some false))) else (if x15 = true then ((span_Has.f x0 x206000 x206001 x3).bind fun t219 => (if t219 = true then ((span_Right.f x0 x193000 x193001).bind fun bt220 => ((span_Has.f x0 x206000 x206001 bt220.1).bind fun t222 => (if t222 = true then ((span_Right.f x0 x194000 x194001).bind fun bt223 => ((span_Has.f x0 x206000 x206001 bt223.2).bind fun t225 => (some t225))) else (some false)))) else (some false))) else ((span_Right.f x0 x193000 x193001).bind fun bt226 => ((span_Has.f x0 x206000 x206001 bt226.1).bind fun t228 => (if t228 = true then ((span_Right.f x0 x194000 x194001).bind fun bt229 => ((span_Has.f x0 x206000 x206001 bt229.2).bind fun t231 => (some t231))) else (some false))))))
def backreachlaw11_SpanMeets.f (k : Nat) (a0 : Int) (a1_0 : Int) (a1_1 : Int) (a2_0 : Int) (a2_1 : Int) (a3 : Int) : Option (Bool) := (backreachlaw11_awake.f k).bind fun t194 => (if t194 = true then ((span_Meet.f a0 a1_0 a1_1 a2_0 a2_1).bind fun bt195 => ((span_Meet.f a0 a2_0 a2_1 a1_0 a1_1).bind fun bt199 => ((span_Join.f a0 a1_0 a1_1 a2_0 a2_1).bind fun bt203 => ((span_Has.f a0 a1_0 a1_1 a3).bind fun t206 => ((span_Has.f a0 a2_0 a2_1 a3).bind fun t207 => (if (bt195.2.2 != bt199.2.2) = true then (backreachlaw11_SpanMeets.j0 k a0 a3 t206 t207 true a1_0 a1_1 a2_0 a2_1 bt203.1 bt203.2) else (if (!(bt195.1 == bt199.1) || (!(bt195.2.1 == bt199.2.1))) = true then (backreachlaw11_SpanMeets.j0 k a0 a3 t206 t207 true a1_0 a1_1 a2_0 a2_1 bt203.1 bt203.2) else ((span_Join.f a0 a2_0 a2_1 a1_0 a1_1).bind fun bt208 => (if (!(bt203.1 == bt208.1) || (!(bt203.2 == bt208.2))) = true then (backreachlaw11_SpanMeets.j0 k a0 a3 t206 t207 true a1_0 a1_1 a2_0 a2_1 bt203.1 bt203.2) else (if t206 = true then (if bt195.2.2 = true then ((span_Has.f a0 bt195.1 bt195.2.1 a3).bind fun t210 => (backreachlaw11_SpanMeets.j0 k a0 a3 t206 t207 (t207 != t210) a1_0 a1_1 a2_0 a2_1 bt203.1 bt203.2)) else (backreachlaw11_SpanMeets.j0 k a0 a3 t206 t207 (t207 != false) a1_0 a1_1 a2_0 a2_1 bt203.1 bt203.2)) else (if bt195.2.2 = true then ((span_Has.f a0 bt195.1 bt195.2.1 a3).bind fun t211 => (backreachlaw11_SpanMeets.j0 k a0 a3 t206 t207 (false != t211) a1_0 a1_1 a2_0 a2_1 bt203.1 bt203.2)) else (backreachlaw11_SpanMeets.j0 k a0 a3 t206 t207 (false != false) a1_0 a1_1 a2_0 a2_1 bt203.1 bt203.2)))))))))))) else (some false))
theorem backreachlaw11_SpanMeets.mono_l : ∀ k, (∀ y0 y1 y2 y3 y4 y5 y6 y7 y8 y9 y10, LeO (backreachlaw11_SpanMeets.j0 k y0 y1 y2 y3 y4 y5 y6 y7 y8 y9 y10) (backreachlaw11_SpanMeets.j0 (k + 1) y0 y1 y2 y3 y4 y5 y6 y7 y8 y9 y10))
 | 0 => fun _ _ _ _ _ _ _ _ _ _ _ r h => by simp [backreachlaw11_SpanMeets.j0] at h
 | k + 1 => by
  have ih0 := backreachlaw11_SpanMeets.mono_l k
  ·
   intro y0 y1 y2 y3 y4 y5 y6 y7 y8 y9 y10
   unfold backreachlaw11_SpanMeets.j0
   repeat' first
   | (with_reducible exact ih0 _ _ _ _ _ _ _ _ _ _ _)
   | (with_reducible exact backreachlaw11_awake.mono _)
   | (with_reducible exact LeO.refl _)
   | (with_reducible exact LeO.none _)
   | (with_reducible refine LeO.ite ?_ ?_)
   | (with_reducible refine LeO.bind ?_ (fun _ => ?_))
   | exact ih0 _ _ _ _ _ _ _ _ _ _ _
   | exact backreachlaw11_awake.mono _
   | exact LeO.none _
   | refine LeO.ite ?_ ?_
   | refine LeO.bind ?_ (fun _ => ?_)
theorem backreachlaw11_SpanMeets.mono : ∀ a0 a1 a2 a3 a4 a5 k, LeO (backreachlaw11_SpanMeets.f k a0 a1 a2 a3 a4 a5) (backreachlaw11_SpanMeets.f (k + 1) a0 a1 a2 a3 a4 a5) := by
 intro a0 a1 a2 a3 a4 a5 k
 have ih0 := backreachlaw11_SpanMeets.mono_l k
 unfold backreachlaw11_SpanMeets.f
 repeat' first
   | (with_reducible exact ih0 _ _ _ _ _ _ _ _ _ _ _)
   | (with_reducible exact backreachlaw11_awake.mono _)
   | (with_reducible exact LeO.refl _)
   | (with_reducible exact LeO.none _)
   | (with_reducible refine LeO.ite ?_ ?_)
   | (with_reducible refine LeO.bind ?_ (fun _ => ?_))
   | exact ih0 _ _ _ _ _ _ _ _ _ _ _
   | exact backreachlaw11_awake.mono _
   | exact LeO.none _
   | refine LeO.ite ?_ ?_
   | refine LeO.bind ?_ (fun _ => ?_)
def backreachlaw11_SpanMeets.T6 : Bool × List (List Nat × List Nat) := (true, [([], []), ([], []), ([], []), ([0, 1, 2], [0, 1, 2]), ([], []), ([], []), ([], []), ([4, 5, 6, 3], [4, 5, 6]), ([3, 7, 0, 1, 2, 3], [3]), ([7, 8, 0, 1, 2, 3, 4, 5, 6, 7, 8], [7])])
def backreachlaw11_SpanMeets.B6 : List Nat := [0, 0, 0, 7, 0, 0, 0, 127, 255, 511]
theorem backreachlaw11_SpanMeets.tab6 : rtab .any (opsOf Try.f7 6) = backreachlaw11_SpanMeets.T6 := by kernel_rfl
theorem backreachlaw11_SpanMeets.bits6 : waitsOk backreachlaw11_SpanMeets.T6.2 backreachlaw11_SpanMeets.B6 = true := by kernel_rfl
def backreachlaw11_SpanMeets.T7 : Bool × List (List Nat × List Nat) := (true, [([], []), ([], []), ([0, 1], [0, 1]), ([2], [2]), ([3], [3]), ([3], [3]), ([4, 5, 3], [3, 4, 5]), ([3, 6], [3, 6]), ([7, 3], [7]), ([8], [8]), ([8], [8]), ([8], [8]), ([8], [8]), ([10, 11, 12, 8, 8], [8, 10, 11, 12]), ([9, 13, 8], [8, 9, 13]), ([8, 14], [8, 14]), ([15, 13], [15]), ([16], [16]), ([17, 16, 16], [16, 17]), ([18], [18]), ([18, 19, 16], [16, 18, 19]), ([16], [16]), ([21, 18, 16], [16, 21]), ([22], [22]), ([22], [22]), ([22], [22]), ([23, 24, 25, 22, 22], [22, 23, 24, 25]), ([22, 26, 16], [16, 22, 26]), ([20, 27, 16], [16, 20, 27]), ([16, 28], [16, 28])])
def backreachlaw11_SpanMeets.B7 : List Nat := [0, 0, 3, 7, 15, 15, 63, 127, 255, 511, 511, 511, 511, 7679, 16383, 32767, 65535, 131071, 262143, 524287, 1048575, 131071, 2621439, 6815743, 6815743, 6815743, 65535999, 132644863, 268435455, 536870911]
theorem backreachlaw11_SpanMeets.tab7 : rtab .any (opsOf Try.f7 7) = backreachlaw11_SpanMeets.T7 := by kernel_rfl
theorem backreachlaw11_SpanMeets.bits7 : waitsOk backreachlaw11_SpanMeets.T7.2 backreachlaw11_SpanMeets.B7 = true := by kernel_rfl
def backreachlaw11_SpanMeets.T9 : Bool × List (List Nat × List Nat) := (true, [([], []), ([0], [0]), ([1], [1]), ([2], [2]), ([3, 2], [2, 3]), ([2, 4], [2, 4]), ([5, 2], [5]), ([6], [6]), ([6], [6]), ([6], [6]), ([7, 8, 9, 6, 6], [6, 7, 8, 9]), ([6, 10], [6, 10]), ([11, 10], [11]), ([12], [12]), ([12], [12]), ([12], [12]), ([12], [12]), ([15, 16, 12, 12], [12, 15, 16]), ([17, 12], [12, 17]), ([13, 14, 18, 17, 12], [12, 13, 14, 18]), ([12, 19], [12, 19]), ([20, 19], [20]), ([21], [21]), ([21], [21]), ([21], [21]), ([21], [21]), ([24, 25, 21, 21], [21, 24, 25]), ([26, 21], [21, 26]), ([22, 23, 27, 26, 21], [21, 22, 23, 27]), ([21, 28], [21, 28]), ([29, 28, 0, 1, 2, 3, 4, 5, 6, 7, 8, 9, 10, 11, 12, 13, 14, 15, 16, 17, 18, 19, 20, 21, 22, 23, 24, 25, 26, 27, 28, 29], [29])])
def backreachlaw11_SpanMeets.B9 : List Nat := [0, 1, 3, 7, 15, 31, 63, 127, 127, 127, 1023, 2047, 4095, 8191, 8191, 8191, 8191, 106495, 237567, 524287, 1048575, 2097151, 4194303, 4194303, 4194303, 4194303, 54525951, 121634815, 268435455, 536870911, 1073741823]
theorem backreachlaw11_SpanMeets.tab9 : rtab .any (opsOf Try.f7 9) = backreachlaw11_SpanMeets.T9 := by kernel_rfl
theorem backreachlaw11_SpanMeets.bits9 : waitsOk backreachlaw11_SpanMeets.T9.2 backreachlaw11_SpanMeets.B9 = true := by kernel_rfl
set_option maxHeartbeats 8000000 in
set_option maxRecDepth 100000 in
theorem backreachlaw11_SpanMeets.calls (k : Nat) (a0 : Int) (a1_0 : Int) (a1_1 : Int) (a2_0 : Int) (a2_1 : Int) (a3 : Int) (r : Bool) (w : World) (hr0 : r = true) (h : backreachlaw11_SpanMeets.f k a0 a1_0 a1_1 a2_0 a2_1 a3 = some r) :
  Calls Try.prog 7 #[.int .i64 a0, .agg #[.int .u64 a1_0, .int .u64 a1_1], .agg #[.int .u64 a2_0, .int .u64 a2_1], .int .u64 a3] w fun e w' => e = .returned (.bool r) ∧ Below w.heap.size w w' := by
 have hu24 := Try.underlying24
 have hf0_ : ∀ (x y : Int) (w : World), (Instr.field 24 (.agg #[.int .u64 x, .int .u64 y]) 0).run Try.prog w = .ok (.int .u64 x) w := fun _ _ _ => by kernel_rfl
 have hf1_ : ∀ (x y : Int) (w : World), (Instr.field 24 (.agg #[.int .u64 x, .int .u64 y]) 1).run Try.prog w = .ok (.int .u64 y) w := fun _ _ _ => by kernel_rfl
 have HB := Aside0.mk (Below.refl w.heap.size w)
 have H : ((backreachlaw11_awake.f k).bind fun t194 => (if t194 = true then ((span_Meet.f a0 a1_0 a1_1 a2_0 a2_1).bind fun bt195 => ((span_Meet.f a0 a2_0 a2_1 a1_0 a1_1).bind fun bt199 => ((span_Join.f a0 a1_0 a1_1 a2_0 a2_1).bind fun bt203 => ((span_Has.f a0 a1_0 a1_1 a3).bind fun t206 => ((span_Has.f a0 a2_0 a2_1 a3).bind fun t207 => (if (bt195.2.2 != bt199.2.2) = true then (backreachlaw11_SpanMeets.j0 k a0 a3 t206 t207 true a1_0 a1_1 a2_0 a2_1 bt203.1 bt203.2) else (if (!(bt195.1 == bt199.1) || (!(bt195.2.1 == bt199.2.1))) = true then (backreachlaw11_SpanMeets.j0 k a0 a3 t206 t207 true a1_0 a1_1 a2_0 a2_1 bt203.1 bt203.2) else ((span_Join.f a0 a2_0 a2_1 a1_0 a1_1).bind fun bt208 => (if (!(bt203.1 == bt208.1) || (!(bt203.2 == bt208.2))) = true then (backreachlaw11_SpanMeets.j0 k a0 a3 t206 t207 true a1_0 a1_1 a2_0 a2_1 bt203.1 bt203.2) else (if t206 = true then (if bt195.2.2 = true then ((span_Has.f a0 bt195.1 bt195.2.1 a3).bind fun t210 => (backreachlaw11_SpanMeets.j0 k a0 a3 t206 t207 (t207 != t210) a1_0 a1_1 a2_0 a2_1 bt203.1 bt203.2)) else (backreachlaw11_SpanMeets.j0 k a0 a3 t206 t207 (t207 != false) a1_0 a1_1 a2_0 a2_1 bt203.1 bt203.2)) else (if bt195.2.2 = true then ((span_Has.f a0 bt195.1 bt195.2.1 a3).bind fun t211 => (backreachlaw11_SpanMeets.j0 k a0 a3 t206 t207 (false != t211) a1_0 a1_1 a2_0 a2_1 bt203.1 bt203.2)) else (backreachlaw11_SpanMeets.j0 k a0 a3 t206 t207 (false != false) a1_0 a1_1 a2_0 a2_1 bt203.1 bt203.2)))))))))))) else (some false))) = some r := h
 clear h
 have hr_ := Aside0.mk hr0
 clear hr0
 replace H := Option.bind_eq_some_iff.mp H
 obtain ⟨t194, A50, H⟩ := H
 replace H : (if t194 = true then ((span_Meet.f a0 a1_0 a1_1 a2_0 a2_1).bind fun bt195 => ((span_Meet.f a0 a2_0 a2_1 a1_0 a1_1).bind fun bt199 => ((span_Join.f a0 a1_0 a1_1 a2_0 a2_1).bind fun bt203 => ((span_Has.f a0 a1_0 a1_1 a3).bind fun t206 => ((span_Has.f a0 a2_0 a2_1 a3).bind fun t207 => (if (bt195.2.2 != bt199.2.2) = true then (backreachlaw11_SpanMeets.j0 k a0 a3 t206 t207 true a1_0 a1_1 a2_0 a2_1 bt203.1 bt203.2) else (if (!(bt195.1 == bt199.1) || (!(bt195.2.1 == bt199.2.1))) = true then (backreachlaw11_SpanMeets.j0 k a0 a3 t206 t207 true a1_0 a1_1 a2_0 a2_1 bt203.1 bt203.2) else ((span_Join.f a0 a2_0 a2_1 a1_0 a1_1).bind fun bt208 => (if (!(bt203.1 == bt208.1) || (!(bt203.2 == bt208.2))) = true then (backreachlaw11_SpanMeets.j0 k a0 a3 t206 t207 true a1_0 a1_1 a2_0 a2_1 bt203.1 bt203.2) else (if t206 = true then (if bt195.2.2 = true then ((span_Has.f a0 bt195.1 bt195.2.1 a3).bind fun t210 => (backreachlaw11_SpanMeets.j0 k a0 a3 t206 t207 (t207 != t210) a1_0 a1_1 a2_0 a2_1 bt203.1 bt203.2)) else (backreachlaw11_SpanMeets.j0 k a0 a3 t206 t207 (t207 != false) a1_0 a1_1 a2_0 a2_1 bt203.1 bt203.2)) else (if bt195.2.2 = true then ((span_Has.f a0 bt195.1 bt195.2.1 a3).bind fun t211 => (backreachlaw11_SpanMeets.j0 k a0 a3 t206 t207 (false != t211) a1_0 a1_1 a2_0 a2_1 bt203.1 bt203.2)) else (backreachlaw11_SpanMeets.j0 k a0 a3 t206 t207 (false != false) a1_0 a1_1 a2_0 a2_1 bt203.1 bt203.2)))))))))))) else (some false)) = some r := H
 have A5 := Aside0.mk A50
 clear A50
 by_cases c6 : t194 = true
 ·
  subst c6
  have H1 : ((span_Meet.f a0 a1_0 a1_1 a2_0 a2_1).bind fun bt195 => ((span_Meet.f a0 a2_0 a2_1 a1_0 a1_1).bind fun bt199 => ((span_Join.f a0 a1_0 a1_1 a2_0 a2_1).bind fun bt203 => ((span_Has.f a0 a1_0 a1_1 a3).bind fun t206 => ((span_Has.f a0 a2_0 a2_1 a3).bind fun t207 => (if (bt195.2.2 != bt199.2.2) = true then (backreachlaw11_SpanMeets.j0 k a0 a3 t206 t207 true a1_0 a1_1 a2_0 a2_1 bt203.1 bt203.2) else (if (!(bt195.1 == bt199.1) || (!(bt195.2.1 == bt199.2.1))) = true then (backreachlaw11_SpanMeets.j0 k a0 a3 t206 t207 true a1_0 a1_1 a2_0 a2_1 bt203.1 bt203.2) else ((span_Join.f a0 a2_0 a2_1 a1_0 a1_1).bind fun bt208 => (if (!(bt203.1 == bt208.1) || (!(bt203.2 == bt208.2))) = true then (backreachlaw11_SpanMeets.j0 k a0 a3 t206 t207 true a1_0 a1_1 a2_0 a2_1 bt203.1 bt203.2) else (if t206 = true then (if bt195.2.2 = true then ((span_Has.f a0 bt195.1 bt195.2.1 a3).bind fun t210 => (backreachlaw11_SpanMeets.j0 k a0 a3 t206 t207 (t207 != t210) a1_0 a1_1 a2_0 a2_1 bt203.1 bt203.2)) else (backreachlaw11_SpanMeets.j0 k a0 a3 t206 t207 (t207 != false) a1_0 a1_1 a2_0 a2_1 bt203.1 bt203.2)) else (if bt195.2.2 = true then ((span_Has.f a0 bt195.1 bt195.2.1 a3).bind fun t211 => (backreachlaw11_SpanMeets.j0 k a0 a3 t206 t207 (false != t211) a1_0 a1_1 a2_0 a2_1 bt203.1 bt203.2)) else (backreachlaw11_SpanMeets.j0 k a0 a3 t206 t207 (false != false) a1_0 a1_1 a2_0 a2_1 bt203.1 bt203.2)))))))))))) = some r := by rw [if_pos rfl] at H; exact H
  clear H
  have H := H1
  clear H1
  replace H := Option.bind_eq_some_iff.mp H
  obtain ⟨⟨t195, t196, t197⟩, A70, H⟩ := H
  replace H : ((span_Meet.f a0 a2_0 a2_1 a1_0 a1_1).bind fun bt199 => ((span_Join.f a0 a1_0 a1_1 a2_0 a2_1).bind fun bt203 => ((span_Has.f a0 a1_0 a1_1 a3).bind fun t206 => ((span_Has.f a0 a2_0 a2_1 a3).bind fun t207 => (if (t197 != bt199.2.2) = true then (backreachlaw11_SpanMeets.j0 k a0 a3 t206 t207 true a1_0 a1_1 a2_0 a2_1 bt203.1 bt203.2) else (if (!(t195 == bt199.1) || (!(t196 == bt199.2.1))) = true then (backreachlaw11_SpanMeets.j0 k a0 a3 t206 t207 true a1_0 a1_1 a2_0 a2_1 bt203.1 bt203.2) else ((span_Join.f a0 a2_0 a2_1 a1_0 a1_1).bind fun bt208 => (if (!(bt203.1 == bt208.1) || (!(bt203.2 == bt208.2))) = true then (backreachlaw11_SpanMeets.j0 k a0 a3 t206 t207 true a1_0 a1_1 a2_0 a2_1 bt203.1 bt203.2) else (if t206 = true then (if t197 = true then ((span_Has.f a0 t195 t196 a3).bind fun t210 => (backreachlaw11_SpanMeets.j0 k a0 a3 t206 t207 (t207 != t210) a1_0 a1_1 a2_0 a2_1 bt203.1 bt203.2)) else (backreachlaw11_SpanMeets.j0 k a0 a3 t206 t207 (t207 != false) a1_0 a1_1 a2_0 a2_1 bt203.1 bt203.2)) else (if t197 = true then ((span_Has.f a0 t195 t196 a3).bind fun t211 => (backreachlaw11_SpanMeets.j0 k a0 a3 t206 t207 (false != t211) a1_0 a1_1 a2_0 a2_1 bt203.1 bt203.2)) else (backreachlaw11_SpanMeets.j0 k a0 a3 t206 t207 (false != false) a1_0 a1_1 a2_0 a2_1 bt203.1 bt203.2))))))))))) = some r := H
  have A7 := Aside0.mk A70
  clear A70
  replace H := Option.bind_eq_some_iff.mp H
  obtain ⟨⟨t199, t200, t201⟩, A80, H⟩ := H
  replace H : ((span_Join.f a0 a1_0 a1_1 a2_0 a2_1).bind fun bt203 => ((span_Has.f a0 a1_0 a1_1 a3).bind fun t206 => ((span_Has.f a0 a2_0 a2_1 a3).bind fun t207 => (if (t197 != t201) = true then (backreachlaw11_SpanMeets.j0 k a0 a3 t206 t207 true a1_0 a1_1 a2_0 a2_1 bt203.1 bt203.2) else (if (!(t195 == t199) || (!(t196 == t200))) = true then (backreachlaw11_SpanMeets.j0 k a0 a3 t206 t207 true a1_0 a1_1 a2_0 a2_1 bt203.1 bt203.2) else ((span_Join.f a0 a2_0 a2_1 a1_0 a1_1).bind fun bt208 => (if (!(bt203.1 == bt208.1) || (!(bt203.2 == bt208.2))) = true then (backreachlaw11_SpanMeets.j0 k a0 a3 t206 t207 true a1_0 a1_1 a2_0 a2_1 bt203.1 bt203.2) else (if t206 = true then (if t197 = true then ((span_Has.f a0 t195 t196 a3).bind fun t210 => (backreachlaw11_SpanMeets.j0 k a0 a3 t206 t207 (t207 != t210) a1_0 a1_1 a2_0 a2_1 bt203.1 bt203.2)) else (backreachlaw11_SpanMeets.j0 k a0 a3 t206 t207 (t207 != false) a1_0 a1_1 a2_0 a2_1 bt203.1 bt203.2)) else (if t197 = true then ((span_Has.f a0 t195 t196 a3).bind fun t211 => (backreachlaw11_SpanMeets.j0 k a0 a3 t206 t207 (false != t211) a1_0 a1_1 a2_0 a2_1 bt203.1 bt203.2)) else (backreachlaw11_SpanMeets.j0 k a0 a3 t206 t207 (false != false) a1_0 a1_1 a2_0 a2_1 bt203.1 bt203.2)))))))))) = some r := H
  have A8 := Aside0.mk A80
  clear A80
  replace H := Option.bind_eq_some_iff.mp H
  obtain ⟨⟨t203, t204⟩, A90, H⟩ := H
  replace H : ((span_Has.f a0 a1_0 a1_1 a3).bind fun t206 => ((span_Has.f a0 a2_0 a2_1 a3).bind fun t207 => (if (t197 != t201) = true then (backreachlaw11_SpanMeets.j0 k a0 a3 t206 t207 true a1_0 a1_1 a2_0 a2_1 t203 t204) else (if (!(t195 == t199) || (!(t196 == t200))) = true then (backreachlaw11_SpanMeets.j0 k a0 a3 t206 t207 true a1_0 a1_1 a2_0 a2_1 t203 t204) else ((span_Join.f a0 a2_0 a2_1 a1_0 a1_1).bind fun bt208 => (if (!(t203 == bt208.1) || (!(t204 == bt208.2))) = true then (backreachlaw11_SpanMeets.j0 k a0 a3 t206 t207 true a1_0 a1_1 a2_0 a2_1 t203 t204) else (if t206 = true then (if t197 = true then ((span_Has.f a0 t195 t196 a3).bind fun t210 => (backreachlaw11_SpanMeets.j0 k a0 a3 t206 t207 (t207 != t210) a1_0 a1_1 a2_0 a2_1 t203 t204)) else (backreachlaw11_SpanMeets.j0 k a0 a3 t206 t207 (t207 != false) a1_0 a1_1 a2_0 a2_1 t203 t204)) else (if t197 = true then ((span_Has.f a0 t195 t196 a3).bind fun t211 => (backreachlaw11_SpanMeets.j0 k a0 a3 t206 t207 (false != t211) a1_0 a1_1 a2_0 a2_1 t203 t204)) else (backreachlaw11_SpanMeets.j0 k a0 a3 t206 t207 (false != false) a1_0 a1_1 a2_0 a2_1 t203 t204))))))))) = some r := H
  have A9 := Aside0.mk A90
  clear A90
  replace H := Option.bind_eq_some_iff.mp H
  obtain ⟨t206, A100, H⟩ := H
  replace H : ((span_Has.f a0 a2_0 a2_1 a3).bind fun t207 => (if (t197 != t201) = true then (backreachlaw11_SpanMeets.j0 k a0 a3 t206 t207 true a1_0 a1_1 a2_0 a2_1 t203 t204) else (if (!(t195 == t199) || (!(t196 == t200))) = true then (backreachlaw11_SpanMeets.j0 k a0 a3 t206 t207 true a1_0 a1_1 a2_0 a2_1 t203 t204) else ((span_Join.f a0 a2_0 a2_1 a1_0 a1_1).bind fun bt208 => (if (!(t203 == bt208.1) || (!(t204 == bt208.2))) = true then (backreachlaw11_SpanMeets.j0 k a0 a3 t206 t207 true a1_0 a1_1 a2_0 a2_1 t203 t204) else (if t206 = true then (if t197 = true then ((span_Has.f a0 t195 t196 a3).bind fun t210 => (backreachlaw11_SpanMeets.j0 k a0 a3 t206 t207 (t207 != t210) a1_0 a1_1 a2_0 a2_1 t203 t204)) else (backreachlaw11_SpanMeets.j0 k a0 a3 t206 t207 (t207 != false) a1_0 a1_1 a2_0 a2_1 t203 t204)) else (if t197 = true then ((span_Has.f a0 t195 t196 a3).bind fun t211 => (backreachlaw11_SpanMeets.j0 k a0 a3 t206 t207 (false != t211) a1_0 a1_1 a2_0 a2_1 t203 t204)) else (backreachlaw11_SpanMeets.j0 k a0 a3 t206 t207 (false != false) a1_0 a1_1 a2_0 a2_1 t203 t204)))))))) = some r := H
  have A10 := Aside0.mk A100
  clear A100
  replace H := Option.bind_eq_some_iff.mp H
  obtain ⟨t207, A110, H⟩ := H
  replace H : (if (t197 != t201) = true then (backreachlaw11_SpanMeets.j0 k a0 a3 t206 t207 true a1_0 a1_1 a2_0 a2_1 t203 t204) else (if (!(t195 == t199) || (!(t196 == t200))) = true then (backreachlaw11_SpanMeets.j0 k a0 a3 t206 t207 true a1_0 a1_1 a2_0 a2_1 t203 t204) else ((span_Join.f a0 a2_0 a2_1 a1_0 a1_1).bind fun bt208 => (if (!(t203 == bt208.1) || (!(t204 == bt208.2))) = true then (backreachlaw11_SpanMeets.j0 k a0 a3 t206 t207 true a1_0 a1_1 a2_0 a2_1 t203 t204) else (if t206 = true then (if t197 = true then ((span_Has.f a0 t195 t196 a3).bind fun t210 => (backreachlaw11_SpanMeets.j0 k a0 a3 t206 t207 (t207 != t210) a1_0 a1_1 a2_0 a2_1 t203 t204)) else (backreachlaw11_SpanMeets.j0 k a0 a3 t206 t207 (t207 != false) a1_0 a1_1 a2_0 a2_1 t203 t204)) else (if t197 = true then ((span_Has.f a0 t195 t196 a3).bind fun t211 => (backreachlaw11_SpanMeets.j0 k a0 a3 t206 t207 (false != t211) a1_0 a1_1 a2_0 a2_1 t203 t204)) else (backreachlaw11_SpanMeets.j0 k a0 a3 t206 t207 (false != false) a1_0 a1_1 a2_0 a2_1 t203 t204))))))) = some r := H
  have A11 := Aside0.mk A110
  clear A110
  have HC12 := Aside0.mk H
  clear H
  go_enter Try.func7, Try.ntmps7
  try go_wp2_with (first | ((with_reducible refine gate_dst (N := 5) rfl ?_); refine box_event ?hg (N := 5) ?hd (cs := #[.int .u64 a1_0, .int .u64 a1_1]) (t := 24) ?hr ?_; (case hd => rfl); (case hg => rfl); (case hr => first | (go_simp; done) | (go_simp; rfl)); intro gb192 hg w13 hbox hb; have n0_ := Aside0.mk (below_step (by repeat (first | (with_reducible first | exact HB.out | apply below_alloc | apply pw_below_drewN | apply below_drew1) | exact HB.out)) hb); have n1_ := Aside0.mk (hbox); have n2_ := Aside0.mk ((by rw [hg]; exact (below_size (by repeat (first | (with_reducible first | exact HB.out | apply below_alloc | apply pw_below_drewN | apply below_drew1) | exact HB.out))) : w.heap.size ≤ gb192)); have n3_ := Aside0.mk ((by rw [hg]; exact (below_size (by repeat (first | (with_reducible first | exact HB.out | apply below_alloc | apply pw_below_drewN | apply below_drew1) | exact HB.out))) : w.heap.size ≤ gb192)); clear HB; have HB := n0_; have BK192 := n1_; have GW192 := n2_; have GE192 := n3_; clear n0_ n1_ n2_ n3_; clear hb hbox hg) | ((with_reducible refine gate_dst (N := 6) rfl ?_); refine box_event ?hg (N := 6) ?hd (cs := #[.int .u64 a2_0, .int .u64 a2_1]) (t := 24) ?hr ?_; (case hd => rfl); (case hg => rfl); (case hr => first | (go_simp; done) | (go_simp; rfl)); intro gb193 hg w14 hbox hb; have n0_ := Aside0.mk (bbq BK192 hb); have n1_ := Aside0.mk (below_step (by repeat (first | (with_reducible first | exact HB.out | apply below_alloc | apply pw_below_drewN | apply below_drew1 | refine below_set ?_ GE192.out) | exact HB.out)) hb); have n2_ := Aside0.mk (hbox); have n3_ := Aside0.mk ((by rw [hg]; exact (below_size (by repeat (first | (with_reducible first | exact HB.out | apply below_alloc | apply pw_below_drewN | apply below_drew1 | refine below_set ?_ GE192.out) | exact HB.out))) : w.heap.size ≤ gb193)); have n4_ := Aside0.mk ((by rw [hg]; exact (below_size (by repeat (first | (with_reducible first | exact HB.out | apply below_alloc | apply pw_below_drewN | apply below_drew1 | refine below_set ?_ GE192.out) | exact HB.out))) : w.heap.size ≤ gb193)); have n5_ := Aside0.mk ((nlq hg BK192 : gb192 ≠ gb193)); have n6_ := Aside0.mk ((ngq hg BK192 : gb193 ≠ gb192)); clear BK192; clear HB; have BK192 := n0_; have HB := n1_; have BK193 := n2_; have GW193 := n3_; have GE193 := n4_; have NB192_193 := n5_; have NB193_192 := n6_; clear n0_ n1_ n2_ n3_ n4_ n5_ n6_; clear hb hbox hg) | ((with_reducible refine gate_callee (f := 8) rfl ?_); refine goesL_ (some 16) rfl rfl Try.func8 (by kernel_rfl) rfl #[] rfl (by (try simp only [List.map_toArray, List.map_cons, List.map_nil]); first | done | rfl | (simp only [List.length_drop, List.length_take]; rfl)) ?_; (with_reducible refine (backreachlaw11_awake.calls k  true _ A5.out).mono ?_); rintro e w15 ⟨rfl, hb⟩; refine ⟨_, rfl, ?_⟩; have n0_ := Aside0.mk (bbq BK192 hb); have n1_ := Aside0.mk (bbq BK193 hb); have n2_ := Aside0.mk (below_step (by repeat (first | (with_reducible first | exact HB.out | apply below_alloc | apply pw_below_drewN | apply below_drew1 | refine below_set ?_ GE192.out | refine below_set ?_ GE193.out) | exact HB.out)) hb); clear BK192; clear BK193; clear HB; have BK192 := n0_; have BK193 := n1_; have HB := n2_; clear n0_ n1_ n2_; (try clear hb); (try clear hb2); (try clear hk); (try clear hi); have hnb16 := NB192_193.out; have hnc16 := NB193_192.out; have hcz17_0 : w15.cell? ⟨gb192, 0, none⟩ = some (.int .u64 a1_0) := (blk_cell BK192.out 0).trans rfl; have hcz17_1 : w15.cell? ⟨gb192, 1, none⟩ = some (.int .u64 a1_1) := (blk_cell BK192.out 1).trans rfl; have hfz17_0 := blk_frozen BK192.out 0; have hfz17_1 := blk_frozen BK192.out 1; have hcz18_0 : w15.cell? ⟨gb193, 0, none⟩ = some (.int .u64 a2_0) := (blk_cell BK193.out 0).trans rfl; have hcz18_1 : w15.cell? ⟨gb193, 1, none⟩ = some (.int .u64 a2_1) := (blk_cell BK193.out 1).trans rfl; have hfz18_0 := blk_frozen BK193.out 0; have hfz18_1 := blk_frozen BK193.out 1) | ((with_reducible refine gate_callee (f := 19) rfl ?_); refine goesL_ (some 22) rfl rfl Try.func19 (by kernel_rfl) rfl #[.int .i64 a0, .agg #[.int .u64 a1_0, .int .u64 a1_1], .agg #[.int .u64 a2_0, .int .u64 a2_1]] rfl (by (try simp only [List.map_toArray, List.map_cons, List.map_nil]); first | done | rfl | (simp only [List.length_drop, List.length_take]; rfl)) ?_; (with_reducible refine (span_Meet.calls a0 a1_0 a1_1 a2_0 a2_1 t195 t196 t197 _ A7.out).mono ?_); rintro e w19 ⟨rfl, hb⟩; refine ⟨_, rfl, ?_⟩; have n0_ := Aside0.mk (bbq BK192 hb); have n1_ := Aside0.mk (bbq BK193 hb); have n2_ := Aside0.mk (below_step (by repeat (first | (with_reducible first | exact HB.out | apply below_alloc | apply pw_below_drewN | apply below_drew1 | refine below_set ?_ GE192.out | refine below_set ?_ GE193.out) | exact HB.out)) hb); clear BK192; clear BK193; clear HB; have BK192 := n0_; have BK193 := n1_; have HB := n2_; clear n0_ n1_ n2_; (try clear hb); (try clear hb2); (try clear hk); (try clear hi)) | ((with_reducible refine gate_dst (N := 9) rfl ?_); refine box_event ?hg (N := 9) ?hd (cs := #[.int .u64 0, .int .u64 0]) (t := 24) ?hr ?_; (case hd => rfl); (case hg => rfl); (case hr => first | (go_simp; done) | (go_simp; rfl)); intro gb198 hg w20 hbox hb; have n0_ := Aside0.mk (bbq BK192 hb); have n1_ := Aside0.mk (bbq BK193 hb); have n2_ := Aside0.mk (below_step (by repeat (first | (with_reducible first | exact HB.out | apply below_alloc | apply pw_below_drewN | apply below_drew1 | refine below_set ?_ GE192.out | refine below_set ?_ GE193.out) | exact HB.out)) hb); have n3_ := Aside0.mk (hbox); have n4_ := Aside0.mk ((by rw [hg]; exact (below_size (by repeat (first | (with_reducible first | exact HB.out | apply below_alloc | apply pw_below_drewN | apply below_drew1 | refine below_set ?_ GE192.out | refine below_set ?_ GE193.out) | exact HB.out))) : w.heap.size ≤ gb198)); have n5_ := Aside0.mk ((by rw [hg]; exact (below_size (by repeat (first | (with_reducible first | exact HB.out | apply below_alloc | apply pw_below_drewN | apply below_drew1 | refine below_set ?_ GE192.out | refine below_set ?_ GE193.out) | exact HB.out))) : w.heap.size ≤ gb198)); have n6_ := Aside0.mk ((nlq hg BK192 : gb192 ≠ gb198)); have n7_ := Aside0.mk ((ngq hg BK192 : gb198 ≠ gb192)); have n8_ := Aside0.mk ((nlq hg BK193 : gb193 ≠ gb198)); have n9_ := Aside0.mk ((ngq hg BK193 : gb198 ≠ gb193)); clear BK192; clear BK193; clear HB; have BK192 := n0_; have BK193 := n1_; have HB := n2_; have BK198 := n3_; have GW198 := n4_; have GE198 := n5_; have NB192_198 := n6_; have NB198_192 := n7_; have NB193_198 := n8_; have NB198_193 := n9_; clear n0_ n1_ n2_ n3_ n4_ n5_ n6_ n7_ n8_ n9_; clear hb hbox hg; have hnb21 := NB198_192.out; have hnc21 := NB192_198.out; have hnb22 := NB198_193.out; have hnc22 := NB193_198.out; have hcz23_0 : w20.cell? ⟨gb198, 0, none⟩ = some (.int .u64 0) := (blk_cell BK198.out 0).trans rfl; have hcz23_1 : w20.cell? ⟨gb198, 1, none⟩ = some (.int .u64 0) := (blk_cell BK198.out 1).trans rfl; have hfz23_0 := blk_frozen BK198.out 0; have hfz23_1 := blk_frozen BK198.out 1; have hcz24_0 : w20.cell? ⟨gb193, 0, none⟩ = some (.int .u64 a2_0) := (blk_cell BK193.out 0).trans rfl; have hcz24_1 : w20.cell? ⟨gb193, 1, none⟩ = some (.int .u64 a2_1) := (blk_cell BK193.out 1).trans rfl; have hfz24_0 := blk_frozen BK193.out 0; have hfz24_1 := blk_frozen BK193.out 1; have hcz25_0 : w20.cell? ⟨gb192, 0, none⟩ = some (.int .u64 a1_0) := (blk_cell BK192.out 0).trans rfl; have hcz25_1 : w20.cell? ⟨gb192, 1, none⟩ = some (.int .u64 a1_1) := (blk_cell BK192.out 1).trans rfl; have hfz25_0 := blk_frozen BK192.out 0; have hfz25_1 := blk_frozen BK192.out 1) | ((with_reducible refine gate_callee (f := 19) rfl ?_); refine goesL_ (some 29) rfl rfl Try.func19 (by kernel_rfl) rfl #[.int .i64 a0, .agg #[.int .u64 a2_0, .int .u64 a2_1], .agg #[.int .u64 a1_0, .int .u64 a1_1]] rfl (by (try simp only [List.map_toArray, List.map_cons, List.map_nil]); first | done | rfl | (simp only [List.length_drop, List.length_take]; rfl)) ?_; (with_reducible refine (span_Meet.calls a0 a2_0 a2_1 a1_0 a1_1 t199 t200 t201 _ A8.out).mono ?_); rintro e w26 ⟨rfl, hb⟩; refine ⟨_, rfl, ?_⟩; have n0_ := Aside0.mk (blk_below (g := gb192) (o := .cells #[.int .u64 a1_0, .int .u64 a1_1] 24 (0, 0)) (by (with_reducible repeat (first | refine blk_drewN ?_ _ | refine blk_drew ?_ | refine blk_alloc ?_ _)); refine blk_far ?_ NB192_198.out _; (with_reducible repeat (first | refine blk_drewN ?_ _ | refine blk_drew ?_ | refine blk_alloc ?_ _)); refine blk_far ?_ NB192_198.out _; (with_reducible repeat (first | refine blk_drewN ?_ _ | refine blk_drew ?_ | refine blk_alloc ?_ _)); exact BK192.out) hb); have n1_ := Aside0.mk (blk_below (g := gb193) (o := .cells #[.int .u64 a2_0, .int .u64 a2_1] 24 (0, 0)) (by (with_reducible repeat (first | refine blk_drewN ?_ _ | refine blk_drew ?_ | refine blk_alloc ?_ _)); refine blk_far ?_ NB193_198.out _; (with_reducible repeat (first | refine blk_drewN ?_ _ | refine blk_drew ?_ | refine blk_alloc ?_ _)); refine blk_far ?_ NB193_198.out _; (with_reducible repeat (first | refine blk_drewN ?_ _ | refine blk_drew ?_ | refine blk_alloc ?_ _)); exact BK193.out) hb); have n2_ := Aside0.mk (blk_below (g := gb198) (o := .cells #[.int .u64 t195, .int .u64 t196] 24 (0, 0)) (by (with_reducible repeat (first | refine blk_drewN ?_ _ | refine blk_drew ?_ | refine blk_alloc ?_ _)); refine blk_put (cs := #[.int .u64 t195, .int .u64 0]) ?_ 1 _ rfl; (with_reducible repeat (first | refine blk_drewN ?_ _ | refine blk_drew ?_ | refine blk_alloc ?_ _)); refine blk_put (cs := #[.int .u64 0, .int .u64 0]) ?_ 0 _ rfl; (with_reducible repeat (first | refine blk_drewN ?_ _ | refine blk_drew ?_ | refine blk_alloc ?_ _)); exact BK198.out) hb); have n3_ := Aside0.mk (below_step (by repeat (first | (with_reducible first | exact HB.out | apply below_alloc | apply pw_below_drewN | apply below_drew1 | refine below_set ?_ GE192.out | refine below_set ?_ GE193.out | refine below_set ?_ GE198.out) | exact HB.out)) hb); clear BK192; clear BK193; clear BK198; clear HB; have BK192 := n0_; have BK193 := n1_; have BK198 := n2_; have HB := n3_; clear n0_ n1_ n2_ n3_; (try clear hb); (try clear hb2); (try clear hk); (try clear hi)) | ((with_reducible refine gate_dst (N := 11) rfl ?_); refine box_event ?hg (N := 11) ?hd (cs := #[.int .u64 0, .int .u64 0]) (t := 24) ?hr ?_; (case hd => rfl); (case hg => rfl); (case hr => first | (go_simp; done) | (go_simp; rfl)); intro gb202 hg w27 hbox hb; have n0_ := Aside0.mk (bbq BK192 hb); have n1_ := Aside0.mk (bbq BK193 hb); have n2_ := Aside0.mk (bbq BK198 hb); have n3_ := Aside0.mk (below_step (by repeat (first | (with_reducible first | exact HB.out | apply below_alloc | apply pw_below_drewN | apply below_drew1 | refine below_set ?_ GE192.out | refine below_set ?_ GE193.out | refine below_set ?_ GE198.out) | exact HB.out)) hb); have n4_ := Aside0.mk (hbox); have n5_ := Aside0.mk ((by rw [hg]; exact (below_size (by repeat (first | (with_reducible first | exact HB.out | apply below_alloc | apply pw_below_drewN | apply below_drew1 | refine below_set ?_ GE192.out | refine below_set ?_ GE193.out | refine below_set ?_ GE198.out) | exact HB.out))) : w.heap.size ≤ gb202)); have n6_ := Aside0.mk ((by rw [hg]; exact (below_size (by repeat (first | (with_reducible first | exact HB.out | apply below_alloc | apply pw_below_drewN | apply below_drew1 | refine below_set ?_ GE192.out | refine below_set ?_ GE193.out | refine below_set ?_ GE198.out) | exact HB.out))) : w.heap.size ≤ gb202)); have n7_ := Aside0.mk ((nlq hg BK192 : gb192 ≠ gb202)); have n8_ := Aside0.mk ((ngq hg BK192 : gb202 ≠ gb192)); have n9_ := Aside0.mk ((nlq hg BK193 : gb193 ≠ gb202)); have n10_ := Aside0.mk ((ngq hg BK193 : gb202 ≠ gb193)); have n11_ := Aside0.mk ((nlq hg BK198 : gb198 ≠ gb202)); have n12_ := Aside0.mk ((ngq hg BK198 : gb202 ≠ gb198)); clear BK192; clear BK193; clear BK198; clear HB; have BK192 := n0_; have BK193 := n1_; have BK198 := n2_; have HB := n3_; have BK202 := n4_; have GW202 := n5_; have GE202 := n6_; have NB192_202 := n7_; have NB202_192 := n8_; have NB193_202 := n9_; have NB202_193 := n10_; have NB198_202 := n11_; have NB202_198 := n12_; clear n0_ n1_ n2_ n3_ n4_ n5_ n6_ n7_ n8_ n9_ n10_ n11_ n12_; clear hb hbox hg; have hnb28 := NB202_192.out; have hnc28 := NB192_202.out; have hnb29 := NB202_193.out; have hnc29 := NB193_202.out; have hnb30 := NB202_198.out; have hnc30 := NB198_202.out; have hcz31_0 : w27.cell? ⟨gb202, 0, none⟩ = some (.int .u64 0) := (blk_cell BK202.out 0).trans rfl; have hcz31_1 : w27.cell? ⟨gb202, 1, none⟩ = some (.int .u64 0) := (blk_cell BK202.out 1).trans rfl; have hfz31_0 := blk_frozen BK202.out 0; have hfz31_1 := blk_frozen BK202.out 1; have hcz32_0 : w27.cell? ⟨gb192, 0, none⟩ = some (.int .u64 a1_0) := (blk_cell BK192.out 0).trans rfl; have hcz32_1 : w27.cell? ⟨gb192, 1, none⟩ = some (.int .u64 a1_1) := (blk_cell BK192.out 1).trans rfl; have hfz32_0 := blk_frozen BK192.out 0; have hfz32_1 := blk_frozen BK192.out 1; have hcz33_0 : w27.cell? ⟨gb193, 0, none⟩ = some (.int .u64 a2_0) := (blk_cell BK193.out 0).trans rfl; have hcz33_1 : w27.cell? ⟨gb193, 1, none⟩ = some (.int .u64 a2_1) := (blk_cell BK193.out 1).trans rfl; have hfz33_0 := blk_frozen BK193.out 0; have hfz33_1 := blk_frozen BK193.out 1) | ((with_reducible refine gate_callee (f := 15) rfl ?_); refine goesL_ (some 35) rfl rfl Try.func15 (by kernel_rfl) rfl #[.int .i64 a0, .agg #[.int .u64 a1_0, .int .u64 a1_1], .agg #[.int .u64 a2_0, .int .u64 a2_1]] rfl (by (try simp only [List.map_toArray, List.map_cons, List.map_nil]); first | done | rfl | (simp only [List.length_drop, List.length_take]; rfl)) ?_; (with_reducible refine (span_Join.calls a0 a1_0 a1_1 a2_0 a2_1 t203 t204 _ A9.out).mono ?_); rintro e w34 ⟨rfl, hb⟩; refine ⟨_, rfl, ?_⟩; have n0_ := Aside0.mk (blk_below (g := gb192) (o := .cells #[.int .u64 a1_0, .int .u64 a1_1] 24 (0, 0)) (by (with_reducible repeat (first | refine blk_drewN ?_ _ | refine blk_drew ?_ | refine blk_alloc ?_ _)); refine blk_far ?_ NB192_202.out _; (with_reducible repeat (first | refine blk_drewN ?_ _ | refine blk_drew ?_ | refine blk_alloc ?_ _)); refine blk_far ?_ NB192_202.out _; (with_reducible repeat (first | refine blk_drewN ?_ _ | refine blk_drew ?_ | refine blk_alloc ?_ _)); exact BK192.out) hb); have n1_ := Aside0.mk (blk_below (g := gb193) (o := .cells #[.int .u64 a2_0, .int .u64 a2_1] 24 (0, 0)) (by (with_reducible repeat (first | refine blk_drewN ?_ _ | refine blk_drew ?_ | refine blk_alloc ?_ _)); refine blk_far ?_ NB193_202.out _; (with_reducible repeat (first | refine blk_drewN ?_ _ | refine blk_drew ?_ | refine blk_alloc ?_ _)); refine blk_far ?_ NB193_202.out _; (with_reducible repeat (first | refine blk_drewN ?_ _ | refine blk_drew ?_ | refine blk_alloc ?_ _)); exact BK193.out) hb); have n2_ := Aside0.mk (blk_below (g := gb198) (o := .cells #[.int .u64 t195, .int .u64 t196] 24 (0, 0)) (by (with_reducible repeat (first | refine blk_drewN ?_ _ | refine blk_drew ?_ | refine blk_alloc ?_ _)); refine blk_far ?_ NB198_202.out _; (with_reducible repeat (first | refine blk_drewN ?_ _ | refine blk_drew ?_ | refine blk_alloc ?_ _)); refine blk_far ?_ NB198_202.out _; (with_reducible repeat (first | refine blk_drewN ?_ _ | refine blk_drew ?_ | refine blk_alloc ?_ _)); exact BK198.out) hb); have n3_ := Aside0.mk (blk_below (g := gb202) (o := .cells #[.int .u64 t199, .int .u64 t200] 24 (0, 0)) (by (with_reducible repeat (first | refine blk_drewN ?_ _ | refine blk_drew ?_ | refine blk_alloc ?_ _)); refine blk_put (cs := #[.int .u64 t199, .int .u64 0]) ?_ 1 _ rfl; (with_reducible repeat (first | refine blk_drewN ?_ _ | refine blk_drew ?_ | refine blk_alloc ?_ _)); refine blk_put (cs := #[.int .u64 0, .int .u64 0]) ?_ 0 _ rfl; (with_reducible repeat (first | refine blk_drewN ?_ _ | refine blk_drew ?_ | refine blk_alloc ?_ _)); exact BK202.out) hb); have n4_ := Aside0.mk (below_step (by repeat (first | (with_reducible first | exact HB.out | apply below_alloc | apply pw_below_drewN | apply below_drew1 | refine below_set ?_ GE192.out | refine below_set ?_ GE193.out | refine below_set ?_ GE198.out | refine below_set ?_ GE202.out) | exact HB.out)) hb); clear BK192; clear BK193; clear BK198; clear BK202; clear HB; have BK192 := n0_; have BK193 := n1_; have BK198 := n2_; have BK202 := n3_; have HB := n4_; clear n0_ n1_ n2_ n3_ n4_; (try clear hb); (try clear hb2); (try clear hk); (try clear hi)) | ((with_reducible refine gate_dst (N := 13) rfl ?_); refine box_event ?hg (N := 13) ?hd (cs := #[.int .u64 0, .int .u64 0]) (t := 24) ?hr ?_; (case hd => rfl); (case hg => rfl); (case hr => first | (go_simp; done) | (go_simp; rfl)); intro gb205 hg w35 hbox hb; have n0_ := Aside0.mk (bbq BK192 hb); have n1_ := Aside0.mk (bbq BK193 hb); have n2_ := Aside0.mk (bbq BK198 hb); have n3_ := Aside0.mk (bbq BK202 hb); have n4_ := Aside0.mk (below_step (by repeat (first | (with_reducible first | exact HB.out | apply below_alloc | apply pw_below_drewN | apply below_drew1 | refine below_set ?_ GE192.out | refine below_set ?_ GE193.out | refine below_set ?_ GE198.out | refine below_set ?_ GE202.out) | exact HB.out)) hb); have n5_ := Aside0.mk (hbox); have n6_ := Aside0.mk ((by rw [hg]; exact (below_size (by repeat (first | (with_reducible first | exact HB.out | apply below_alloc | apply pw_below_drewN | apply below_drew1 | refine below_set ?_ GE192.out | refine below_set ?_ GE193.out | refine below_set ?_ GE198.out | refine below_set ?_ GE202.out) | exact HB.out))) : w.heap.size ≤ gb205)); have n7_ := Aside0.mk ((by rw [hg]; exact (below_size (by repeat (first | (with_reducible first | exact HB.out | apply below_alloc | apply pw_below_drewN | apply below_drew1 | refine below_set ?_ GE192.out | refine below_set ?_ GE193.out | refine below_set ?_ GE198.out | refine below_set ?_ GE202.out) | exact HB.out))) : w.heap.size ≤ gb205)); have n8_ := Aside0.mk ((nlq hg BK192 : gb192 ≠ gb205)); have n9_ := Aside0.mk ((ngq hg BK192 : gb205 ≠ gb192)); have n10_ := Aside0.mk ((nlq hg BK193 : gb193 ≠ gb205)); have n11_ := Aside0.mk ((ngq hg BK193 : gb205 ≠ gb193)); have n12_ := Aside0.mk ((nlq hg BK198 : gb198 ≠ gb205)); have n13_ := Aside0.mk ((ngq hg BK198 : gb205 ≠ gb198)); have n14_ := Aside0.mk ((nlq hg BK202 : gb202 ≠ gb205)); have n15_ := Aside0.mk ((ngq hg BK202 : gb205 ≠ gb202)); clear BK192; clear BK193; clear BK198; clear BK202; clear HB; have BK192 := n0_; have BK193 := n1_; have BK198 := n2_; have BK202 := n3_; have HB := n4_; have BK205 := n5_; have GW205 := n6_; have GE205 := n7_; have NB192_205 := n8_; have NB205_192 := n9_; have NB193_205 := n10_; have NB205_193 := n11_; have NB198_205 := n12_; have NB205_198 := n13_; have NB202_205 := n14_; have NB205_202 := n15_; clear n0_ n1_ n2_ n3_ n4_ n5_ n6_ n7_ n8_ n9_ n10_ n11_ n12_ n13_ n14_ n15_; clear hb hbox hg; have hnb36 := NB205_192.out; have hnc36 := NB192_205.out; have hnb37 := NB205_193.out; have hnc37 := NB193_205.out; have hnb38 := NB205_198.out; have hnc38 := NB198_205.out; have hnb39 := NB205_202.out; have hnc39 := NB202_205.out; have hcz40_0 : w35.cell? ⟨gb205, 0, none⟩ = some (.int .u64 0) := (blk_cell BK205.out 0).trans rfl; have hcz40_1 : w35.cell? ⟨gb205, 1, none⟩ = some (.int .u64 0) := (blk_cell BK205.out 1).trans rfl; have hfz40_0 := blk_frozen BK205.out 0; have hfz40_1 := blk_frozen BK205.out 1))
  have n0_ : Aside0 (((w35.setCell ⟨gb205, 0, none⟩ (.int .u64 t203)).setCell ⟨gb205, 1, none⟩ (.int .u64 t204)).heap[gb192]? = some (.cells #[.int .u64 a1_0, .int .u64 a1_1] 24 (0, 0))) := ⟨by (with_reducible repeat (first | refine blk_drewN ?_ _ | refine blk_drew ?_ | refine blk_alloc ?_ _)); refine blk_far ?_ NB192_205.out _; (with_reducible repeat (first | refine blk_drewN ?_ _ | refine blk_drew ?_ | refine blk_alloc ?_ _)); refine blk_far ?_ NB192_205.out _; (with_reducible repeat (first | refine blk_drewN ?_ _ | refine blk_drew ?_ | refine blk_alloc ?_ _)); exact BK192.out⟩
  have n1_ : Aside0 (((w35.setCell ⟨gb205, 0, none⟩ (.int .u64 t203)).setCell ⟨gb205, 1, none⟩ (.int .u64 t204)).heap[gb193]? = some (.cells #[.int .u64 a2_0, .int .u64 a2_1] 24 (0, 0))) := ⟨by (with_reducible repeat (first | refine blk_drewN ?_ _ | refine blk_drew ?_ | refine blk_alloc ?_ _)); refine blk_far ?_ NB193_205.out _; (with_reducible repeat (first | refine blk_drewN ?_ _ | refine blk_drew ?_ | refine blk_alloc ?_ _)); refine blk_far ?_ NB193_205.out _; (with_reducible repeat (first | refine blk_drewN ?_ _ | refine blk_drew ?_ | refine blk_alloc ?_ _)); exact BK193.out⟩
  have n2_ : Aside0 (((w35.setCell ⟨gb205, 0, none⟩ (.int .u64 t203)).setCell ⟨gb205, 1, none⟩ (.int .u64 t204)).heap[gb198]? = some (.cells #[.int .u64 t195, .int .u64 t196] 24 (0, 0))) := ⟨by (with_reducible repeat (first | refine blk_drewN ?_ _ | refine blk_drew ?_ | refine blk_alloc ?_ _)); refine blk_far ?_ NB198_205.out _; (with_reducible repeat (first | refine blk_drewN ?_ _ | refine blk_drew ?_ | refine blk_alloc ?_ _)); refine blk_far ?_ NB198_205.out _; (with_reducible repeat (first | refine blk_drewN ?_ _ | refine blk_drew ?_ | refine blk_alloc ?_ _)); exact BK198.out⟩
  have n3_ : Aside0 (((w35.setCell ⟨gb205, 0, none⟩ (.int .u64 t203)).setCell ⟨gb205, 1, none⟩ (.int .u64 t204)).heap[gb202]? = some (.cells #[.int .u64 t199, .int .u64 t200] 24 (0, 0))) := ⟨by (with_reducible repeat (first | refine blk_drewN ?_ _ | refine blk_drew ?_ | refine blk_alloc ?_ _)); refine blk_far ?_ NB202_205.out _; (with_reducible repeat (first | refine blk_drewN ?_ _ | refine blk_drew ?_ | refine blk_alloc ?_ _)); refine blk_far ?_ NB202_205.out _; (with_reducible repeat (first | refine blk_drewN ?_ _ | refine blk_drew ?_ | refine blk_alloc ?_ _)); exact BK202.out⟩
  have n4_ : Aside0 (((w35.setCell ⟨gb205, 0, none⟩ (.int .u64 t203)).setCell ⟨gb205, 1, none⟩ (.int .u64 t204)).heap[gb205]? = some (.cells #[.int .u64 t203, .int .u64 t204] 24 (0, 0))) := ⟨by (with_reducible repeat (first | refine blk_drewN ?_ _ | refine blk_drew ?_ | refine blk_alloc ?_ _)); refine blk_put (cs := #[.int .u64 t203, .int .u64 0]) ?_ 1 _ rfl; (with_reducible repeat (first | refine blk_drewN ?_ _ | refine blk_drew ?_ | refine blk_alloc ?_ _)); refine blk_put (cs := #[.int .u64 0, .int .u64 0]) ?_ 0 _ rfl; (with_reducible repeat (first | refine blk_drewN ?_ _ | refine blk_drew ?_ | refine blk_alloc ?_ _)); exact BK205.out⟩
  have n5_ : Aside0 (Below w.heap.size w ((w35.setCell ⟨gb205, 0, none⟩ (.int .u64 t203)).setCell ⟨gb205, 1, none⟩ (.int .u64 t204))) := ⟨by repeat (first | (with_reducible first | exact HB.out | apply below_alloc | apply pw_below_drewN | apply below_drew1 | refine below_set ?_ GE192.out | refine below_set ?_ GE193.out | refine below_set ?_ GE198.out | refine below_set ?_ GE202.out | refine below_set ?_ GE205.out) | exact HB.out)⟩
  (try clear BK192)
  (try clear BK193)
  (try clear BK198)
  (try clear BK202)
  (try clear BK205)
  (try clear HB)
  generalize ((w35.setCell ⟨gb205, 0, none⟩ (.int .u64 t203)).setCell ⟨gb205, 1, none⟩ (.int .u64 t204)) = w41 at n0_ n1_ n2_ n3_ n4_ n5_ ⊢
  have BK192 := n0_
  have BK193 := n1_
  have BK198 := n2_
  have BK202 := n3_
  have BK205 := n4_
  have HB := n5_
  clear n0_ n1_ n2_ n3_ n4_ n5_
  have n0_ := Aside0.mk (blk_drew BK192.out)
  have n1_ := Aside0.mk (blk_drew BK193.out)
  have n2_ := Aside0.mk (blk_drew BK198.out)
  have n3_ := Aside0.mk (blk_drew BK202.out)
  have n4_ := Aside0.mk (blk_drew BK205.out)
  have n5_ := Aside0.mk (below_drew1 HB.out)
  clear BK192 BK193 BK198 BK202 BK205 HB
  have BK192 := n0_
  have BK193 := n1_
  have BK198 := n2_
  have BK202 := n3_
  have BK205 := n4_
  have HB := n5_
  clear n0_ n1_ n2_ n3_ n4_ n5_
  refine start_ (n := 10) (S := fun w' => w'.cell? ⟨gb192, 0, none⟩ = some (.int .u64 a1_0) ∧ w'.cell? ⟨gb192, 1, none⟩ = some (.int .u64 a1_1) ∧ w'.cell? ⟨gb193, 0, none⟩ = some (.int .u64 a2_0) ∧ w'.cell? ⟨gb193, 1, none⟩ = some (.int .u64 a2_1)) (ds := []) backreachlaw11_SpanMeets.M2 (by kernel_rfl) rfl rfl ⟨(blk_cell BK192.out 0).trans rfl, (blk_cell BK192.out 1).trans rfl, (blk_cell BK193.out 0).trans rfl, (blk_cell BK193.out 1).trans rfl⟩ (fun hHeld => ?_); refine with_tabW backreachlaw11_SpanMeets.tab6 backreachlaw11_SpanMeets.bits6 (fun HT_ HW_ => ?_)
  generalize w41.drew = w42 at BK192 BK193 BK198 BK202 BK205 HB hHeld ⊢
  refine pq_ 0 36 ?_ backreachlaw11_SpanMeets.M5 HT_.out ?_ ?_ ?_ ?_
  rotate_left; focus (intro w'; go_simp; with_reducible rfl)
  rotate_left; focus (simp only [Act.put, List.setIfInBounds_toArray, List.set_cons_zero, List.set_cons_succ, i64_w, i32_w]; rfl)
  refine pq_ 2 38 ?_ backreachlaw11_SpanMeets.M6 HT_.out ?_ ?_ ?_ ?_
  rotate_left; focus (intro w'; go_simp; with_reducible rfl)
  rotate_left; focus (simp only [Act.put, List.setIfInBounds_toArray, List.set_cons_zero, List.set_cons_succ, i64_w, i32_w]; rfl)
  refine pq_ 4 40 ?_ backreachlaw11_SpanMeets.M7 HT_.out ?_ ?_ ?_ ?_
  rotate_left; focus (intro w'; go_simp; with_reducible rfl)
  rotate_left; focus (simp only [Act.put, List.setIfInBounds_toArray, List.set_cons_zero, List.set_cons_succ, i64_w, i32_w]; rfl)
  refine pq_ 6 42 ?_ backreachlaw11_SpanMeets.M8 HT_.out ?_ ?_ ?_ ?_
  rotate_left; focus (intro w'; go_simp; with_reducible rfl)
  rotate_left; focus (simp only [Act.put, List.setIfInBounds_toArray, List.set_cons_zero, List.set_cons_succ, i64_w, i32_w]; rfl)
  refine take_ (i := 1) (N := some 37) (v := ?_) (a' := ?_) backreachlaw11_SpanMeets.M13 rfl rfl (take_ofW HT_.out HW_.out (by kernel_rfl)) (fun _ _ _ h => h) (Or.inl ⟨by rfl, ?_⟩) hHeld ?_ ?_
  rotate_left; focus (rintro w' ⟨s0, s1, s2, s3⟩; go_simp; with_reducible rfl)
  rotate_left; focus (simp only [Act.put, List.setIfInBounds_toArray, List.set_cons_zero, List.set_cons_succ, i64_w, i32_w]; rfl)
  refine take_ (i := 5) (N := some 41) (v := ?_) (a' := ?_) backreachlaw11_SpanMeets.M14 rfl rfl (take_ofW HT_.out HW_.out (by kernel_rfl)) (fun _ _ _ h => h) (Or.inl ⟨by rfl, ?_⟩) hHeld ?_ ?_
  rotate_left; focus (rintro w' ⟨s0, s1, s2, s3⟩; go_simp; with_reducible rfl)
  rotate_left; focus (simp only [Act.put, List.setIfInBounds_toArray, List.set_cons_zero, List.set_cons_succ, i64_w, i32_w]; rfl)
  refine one_ (i := 3) (N := some 39) backreachlaw11_SpanMeets.M23 rfl rfl (one_of HT_.out (by kernel_rfl)) (by decide) (fun K hK => ?_)
  refine goes_ Try.func9 (by kernel_rfl) rfl #[.int .i64 a0, .agg #[.int .u64 a1_0, .int .u64 a1_1], .int .u64 a3] (by rfl) rfl rfl (by (try simp only [List.map_toArray, List.map_cons, List.map_nil]); first | done | rfl | (simp only [List.length_drop, List.length_take]; rfl)) ?_
  with_reducible refine (span_Has.calls a0 a1_0 a1_1 a3 t206 _ A10.out).mono ?_
  rintro e w43 ⟨rfl, hb⟩
  refine ⟨_, rfl, ?_⟩
  have n0_ := Aside0.mk (bbq BK192 hb)
  have n1_ := Aside0.mk (bbq BK193 hb)
  have n2_ := Aside0.mk (bbq BK198 hb)
  have n3_ := Aside0.mk (bbq BK202 hb)
  have n4_ := Aside0.mk (bbq BK205 hb)
  have n5_ := Aside0.mk (below_step (hbq HB) hb)
  clear BK192 BK193 BK198 BK202 BK205 HB
  have BK192 := n0_
  have BK193 := n1_
  have BK198 := n2_
  have BK202 := n3_
  have BK205 := n4_
  have HB := n5_
  clear n0_ n1_ n2_ n3_ n4_ n5_
  (try clear hb)
  (try clear hb2)
  (try clear hk)
  (try clear hi)
  refine hK.out _ _ ⟨(blk_cell BK192.out 0).trans rfl, (blk_cell BK192.out 1).trans rfl, (blk_cell BK193.out 0).trans rfl, (blk_cell BK193.out 1).trans rfl⟩ (fun hHeld => ?_)
  clear hK K
  refine norm_ (a' := ?_) ?_ ?_
  rotate_left
  ·
   show Act.put _ (some 39) _ = _
   simp only [Act.put, List.setIfInBounds_toArray, List.set_cons_zero, List.set_cons_succ, i64_w, i32_w]
   rfl
  refine one_ (i := 7) (N := some 43) backreachlaw11_SpanMeets.M26 rfl rfl (one_of HT_.out (by kernel_rfl)) (by decide) (fun K hK => ?_)
  refine goes_ Try.func9 (by kernel_rfl) rfl #[.int .i64 a0, .agg #[.int .u64 a2_0, .int .u64 a2_1], .int .u64 a3] (by rfl) rfl rfl (by (try simp only [List.map_toArray, List.map_cons, List.map_nil]); first | done | rfl | (simp only [List.length_drop, List.length_take]; rfl)) ?_
  with_reducible refine (span_Has.calls a0 a2_0 a2_1 a3 t207 _ A11.out).mono ?_
  rintro e w44 ⟨rfl, hb⟩
  refine ⟨_, rfl, ?_⟩
  have n0_ := Aside0.mk (bbq BK192 hb)
  have n1_ := Aside0.mk (bbq BK193 hb)
  have n2_ := Aside0.mk (bbq BK198 hb)
  have n3_ := Aside0.mk (bbq BK202 hb)
  have n4_ := Aside0.mk (bbq BK205 hb)
  have n5_ := Aside0.mk (below_step (hbq HB) hb)
  clear BK192 BK193 BK198 BK202 BK205 HB
  have BK192 := n0_
  have BK193 := n1_
  have BK198 := n2_
  have BK202 := n3_
  have BK205 := n4_
  have HB := n5_
  clear n0_ n1_ n2_ n3_ n4_ n5_
  (try clear hb)
  (try clear hb2)
  (try clear hk)
  (try clear hi)
  refine hK.out _ _ ⟨(blk_cell BK192.out 0).trans rfl, (blk_cell BK192.out 1).trans rfl, (blk_cell BK193.out 0).trans rfl, (blk_cell BK193.out 1).trans rfl⟩ (fun hHeld => ?_)
  clear hK K
  refine norm_ (a' := ?_) ?_ ?_
  rotate_left
  ·
   show Act.put _ (some 43) _ = _
   simp only [Act.put, List.setIfInBounds_toArray, List.set_cons_zero, List.set_cons_succ, i64_w, i32_w]
   rfl
  refine pq_ 8 14 ?_ backreachlaw11_SpanMeets.M31 HT_.out ?_ ?_ ?_ ?_
  rotate_left; focus (intro w'; go_simp; with_reducible rfl)
  rotate_left; focus (simp only [Act.put, List.setIfInBounds_toArray, List.set_cons_zero, List.set_cons_succ, i64_w, i32_w]; rfl)
  refine pq_ 9 15 ?_ backreachlaw11_SpanMeets.M76 HT_.out ?_ ?_ ?_ ?_
  rotate_left; focus (intro w'; go_simp; with_reducible rfl)
  rotate_left; focus (simp only [Act.put, List.setIfInBounds_toArray, List.set_cons_zero, List.set_cons_succ, i64_w, i32_w]; rfl)
  refine done_ (done_of HT_.out (by kernel_rfl)) ?_
  go_upto_region 7 with (fail)
  go_cut [73] (fun v73 wc => ∃ (kq : Nat) (x73_11 : Bool), v73 = .bool x73_11 ∧ Aside0 (backreachlaw11_SpanMeets.j0 kq a0 a3 t206 t207 x73_11 a1_0 a1_1 a2_0 a2_1 t203 t204 = some r) ∧ Aside0 (kq ≤ k) ∧ Aside0 (wc.heap[gb192]? = some (.cells #[.int .u64 a1_0, .int .u64 a1_1] 24 (0, 0))) ∧ Aside0 (wc.heap[gb193]? = some (.cells #[.int .u64 a2_0, .int .u64 a2_1] 24 (0, 0))) ∧ Aside0 (wc.heap[gb198]? = some (.cells #[.int .u64 t195, .int .u64 t196] 24 (0, 0))) ∧ Aside0 (wc.heap[gb202]? = some (.cells #[.int .u64 t199, .int .u64 t200] 24 (0, 0))) ∧ Aside0 (wc.heap[gb205]? = some (.cells #[.int .u64 t203, .int .u64 t204] 24 (0, 0))) ∧ Aside0 (Below w.heap.size w wc))
  case first =>
   have H := HC12.out
   clear HC12
   by_cases c45 : (t197 != t201) = true
   ·
    rw [if_pos c45] at H
    have c45b0 : (t197 != t201) = true := c45
    (try (have c45b1 : decide (t197 = t201) = false := by simpa using c45))
    (try (have c45b2 : (t197 == t201) = false := by simpa using c45))
    (try (have c45b3 : ¬ (t197 = t201) := by simpa using c45))
    clear c45
    (first | rw [c45b0] | (simp only [i64_w, i32_w]; rw [c45b0]) | skip)
    have H' := Aside0.mk H
    clear H
    try go_wp2
    have n0_ := Aside0.mk (blk_drew BK192.out)
    have n1_ := Aside0.mk (blk_drew BK193.out)
    have n2_ := Aside0.mk (blk_drew BK198.out)
    have n3_ := Aside0.mk (blk_drew BK202.out)
    have n4_ := Aside0.mk (blk_drew BK205.out)
    have n5_ := Aside0.mk (below_drew1 HB.out)
    clear BK192 BK193 BK198 BK202 BK205 HB
    have BK192 := n0_
    have BK193 := n1_
    have BK198 := n2_
    have BK202 := n3_
    have BK205 := n4_
    have HB := n5_
    clear n0_ n1_ n2_ n3_ n4_ n5_
    refine start_ (n := 30) (S := fun w' => True) (ds := []) backreachlaw11_SpanMeets.M1 (by kernel_rfl) rfl rfl trivial (fun hHeld => ?_); refine with_tabW backreachlaw11_SpanMeets.tab7 backreachlaw11_SpanMeets.bits7 (fun HT_ HW_ => ?_)
    generalize w44.drew = w46 at BK192 BK193 BK198 BK202 BK205 HB hHeld ⊢
    refine pq_ 0 44 ?_ backreachlaw11_SpanMeets.M4 HT_.out ?_ ?_ ?_ ?_
    rotate_left; focus (intro w'; go_simp; with_reducible rfl)
    rotate_left; focus (simp only [Act.put, List.setIfInBounds_toArray, List.set_cons_zero, List.set_cons_succ, i64_w, i32_w]; rfl)
    refine pq_ 1 45 ?_ backreachlaw11_SpanMeets.M10 HT_.out ?_ ?_ ?_ ?_
    rotate_left; focus (intro w'; go_simp; with_reducible rfl)
    rotate_left; focus (simp only [Act.put, List.setIfInBounds_toArray, List.set_cons_zero, List.set_cons_succ, i64_w, i32_w]; rfl)
    refine pq_ 2 46 ?_ backreachlaw11_SpanMeets.M12 HT_.out ?_ ?_ ?_ ?_
    rotate_left; focus (intro w'; go_simp; with_reducible rfl)
    rotate_left; focus (simp only [Act.put, List.setIfInBounds_toArray, List.set_cons_zero, List.set_cons_succ, i64_w, i32_w]; rfl)
    refine pq_ 3 47 ?_ backreachlaw11_SpanMeets.M16 HT_.out ?_ ?_ ?_ ?_
    rotate_left; focus (intro w'; go_simp; with_reducible rfl)
    rotate_left; focus (simp only [Act.put, List.setIfInBounds_toArray, List.set_cons_zero, List.set_cons_succ, i64_w, i32_w]; rfl)
    refine pure_ (i := 4) (N := some 48) (v := undef) (a' := ?_) backreachlaw11_SpanMeets.M18 rfl rfl (any_of HT_.out (by kernel_rfl)) (fun _ _ _ h => h) (Or.inr ⟨by rfl, rfl⟩) ?_ ?_
    rotate_left; focus (simp only [Act.put, List.setIfInBounds_toArray, List.set_cons_zero, List.set_cons_succ, i64_w, i32_w]; rfl)
    refine pure_ (i := 5) (N := some 49) (v := undef) (a' := ?_) backreachlaw11_SpanMeets.M20 rfl rfl (any_of HT_.out (by kernel_rfl)) (fun _ _ _ h => h) (Or.inr ⟨by rfl, rfl⟩) ?_ ?_
    rotate_left; focus (simp only [Act.put, List.setIfInBounds_toArray, List.set_cons_zero, List.set_cons_succ, i64_w, i32_w]; rfl)
    refine pure_ (i := 6) (N := some 50) (v := undef) (a' := ?_) backreachlaw11_SpanMeets.M22 rfl rfl (any_of HT_.out (by kernel_rfl)) (fun _ _ _ h => h) (Or.inr ⟨by rfl, rfl⟩) ?_ ?_
    rotate_left; focus (simp only [Act.put, List.setIfInBounds_toArray, List.set_cons_zero, List.set_cons_succ, i64_w, i32_w]; rfl)
    refine pq_ 7 51 ?_ backreachlaw11_SpanMeets.M25 HT_.out ?_ ?_ ?_ ?_
    rotate_left; focus (intro w'; go_simp; with_reducible rfl)
    rotate_left; focus (simp only [Act.put, List.setIfInBounds_toArray, List.set_cons_zero, List.set_cons_succ, i64_w, i32_w]; rfl)
    refine pq_ 8 52 ?_ backreachlaw11_SpanMeets.M29 HT_.out ?_ ?_ ?_ ?_
    rotate_left; focus (intro w'; go_simp; with_reducible rfl)
    rotate_left; focus (simp only [Act.put, List.setIfInBounds_toArray, List.set_cons_zero, List.set_cons_succ, i64_w, i32_w]; rfl)
    refine pure_ (i := 9) (N := some 53) (v := undef) (a' := ?_) backreachlaw11_SpanMeets.M33 rfl rfl (any_of HT_.out (by kernel_rfl)) (fun _ _ _ h => h) (Or.inr ⟨by rfl, rfl⟩) ?_ ?_
    rotate_left; focus (simp only [Act.put, List.setIfInBounds_toArray, List.set_cons_zero, List.set_cons_succ, i64_w, i32_w]; rfl)
    refine pure_ (i := 10) (N := some 54) (v := undef) (a' := ?_) backreachlaw11_SpanMeets.M35 rfl rfl (any_of HT_.out (by kernel_rfl)) (fun _ _ _ h => h) (Or.inr ⟨by rfl, rfl⟩) ?_ ?_
    rotate_left; focus (simp only [Act.put, List.setIfInBounds_toArray, List.set_cons_zero, List.set_cons_succ, i64_w, i32_w]; rfl)
    refine pure_ (i := 11) (N := some 55) (v := undef) (a' := ?_) backreachlaw11_SpanMeets.M37 rfl rfl (any_of HT_.out (by kernel_rfl)) (fun _ _ _ h => h) (Or.inr ⟨by rfl, rfl⟩) ?_ ?_
    rotate_left; focus (simp only [Act.put, List.setIfInBounds_toArray, List.set_cons_zero, List.set_cons_succ, i64_w, i32_w]; rfl)
    refine pure_ (i := 12) (N := some 56) (v := undef) (a' := ?_) backreachlaw11_SpanMeets.M39 rfl rfl (any_of HT_.out (by kernel_rfl)) (fun _ _ _ h => h) (Or.inr ⟨by rfl, rfl⟩) ?_ ?_
    rotate_left; focus (simp only [Act.put, List.setIfInBounds_toArray, List.set_cons_zero, List.set_cons_succ, i64_w, i32_w]; rfl)
    refine pure_ (i := 13) (N := some 57) (v := undef) (a' := ?_) backreachlaw11_SpanMeets.M41 rfl rfl (any_of HT_.out (by kernel_rfl)) (fun _ _ _ h => h) (Or.inr ⟨by rfl, rfl⟩) ?_ ?_
    rotate_left; focus (simp only [Act.put, List.setIfInBounds_toArray, List.set_cons_zero, List.set_cons_succ, i64_w, i32_w]; rfl)
    refine pure_ (i := 14) (N := some 58) (v := undef) (a' := ?_) backreachlaw11_SpanMeets.M43 rfl rfl (any_of HT_.out (by kernel_rfl)) (fun _ _ _ h => h) (Or.inr ⟨by rfl, rfl⟩) ?_ ?_
    rotate_left; focus (simp only [Act.put, List.setIfInBounds_toArray, List.set_cons_zero, List.set_cons_succ, i64_w, i32_w]; rfl)
    refine pq_ 15 59 ?_ backreachlaw11_SpanMeets.M45 HT_.out ?_ ?_ ?_ ?_
    rotate_left; focus (intro w'; go_simp; with_reducible rfl)
    rotate_left; focus (simp only [Act.put, List.setIfInBounds_toArray, List.set_cons_zero, List.set_cons_succ, i64_w, i32_w]; rfl)
    refine pq_ 16 60 ?_ backreachlaw11_SpanMeets.M47 HT_.out ?_ ?_ ?_ ?_
    rotate_left; focus (intro w'; go_simp; with_reducible rfl)
    rotate_left; focus (simp only [Act.put, List.setIfInBounds_toArray, List.set_cons_zero, List.set_cons_succ, i64_w, i32_w]; rfl)
    refine pure_ (i := 17) (N := some 61) (v := undef) (a' := ?_) backreachlaw11_SpanMeets.M49 rfl rfl (any_of HT_.out (by kernel_rfl)) (fun _ _ _ h => h) (Or.inr ⟨by rfl, rfl⟩) ?_ ?_
    rotate_left; focus (simp only [Act.put, List.setIfInBounds_toArray, List.set_cons_zero, List.set_cons_succ, i64_w, i32_w]; rfl)
    refine pure_ (i := 18) (N := some 62) (v := undef) (a' := ?_) backreachlaw11_SpanMeets.M51 rfl rfl (any_of HT_.out (by kernel_rfl)) (fun _ _ _ h => h) (Or.inr ⟨by rfl, rfl⟩) ?_ ?_
    rotate_left; focus (simp only [Act.put, List.setIfInBounds_toArray, List.set_cons_zero, List.set_cons_succ, i64_w, i32_w]; rfl)
    refine pure_ (i := 19) (N := some 63) (v := undef) (a' := ?_) backreachlaw11_SpanMeets.M53 rfl rfl (any_of HT_.out (by kernel_rfl)) (fun _ _ _ h => h) (Or.inr ⟨by rfl, rfl⟩) ?_ ?_
    rotate_left; focus (simp only [Act.put, List.setIfInBounds_toArray, List.set_cons_zero, List.set_cons_succ, i64_w, i32_w]; rfl)
    refine pure_ (i := 20) (N := some 64) (v := undef) (a' := ?_) backreachlaw11_SpanMeets.M55 rfl rfl (any_of HT_.out (by kernel_rfl)) (fun _ _ _ h => h) (Or.inr ⟨by rfl, rfl⟩) ?_ ?_
    rotate_left; focus (simp only [Act.put, List.setIfInBounds_toArray, List.set_cons_zero, List.set_cons_succ, i64_w, i32_w]; rfl)
    refine pure_ (i := 21) (N := some 65) (v := undef) (a' := ?_) backreachlaw11_SpanMeets.M57 rfl rfl (any_of HT_.out (by kernel_rfl)) (fun _ _ _ h => h) (Or.inr ⟨by rfl, rfl⟩) ?_ ?_
    rotate_left; focus (simp only [Act.put, List.setIfInBounds_toArray, List.set_cons_zero, List.set_cons_succ, i64_w, i32_w]; rfl)
    refine pure_ (i := 22) (N := some 66) (v := undef) (a' := ?_) backreachlaw11_SpanMeets.M59 rfl rfl (any_of HT_.out (by kernel_rfl)) (fun _ _ _ h => h) (Or.inr ⟨by rfl, rfl⟩) ?_ ?_
    rotate_left; focus (simp only [Act.put, List.setIfInBounds_toArray, List.set_cons_zero, List.set_cons_succ, i64_w, i32_w]; rfl)
    refine pure_ (i := 23) (N := some 67) (v := undef) (a' := ?_) backreachlaw11_SpanMeets.M61 rfl rfl (any_of HT_.out (by kernel_rfl)) (fun _ _ _ h => h) (Or.inr ⟨by rfl, rfl⟩) ?_ ?_
    rotate_left; focus (simp only [Act.put, List.setIfInBounds_toArray, List.set_cons_zero, List.set_cons_succ, i64_w, i32_w]; rfl)
    refine pure_ (i := 24) (N := some 68) (v := undef) (a' := ?_) backreachlaw11_SpanMeets.M64 rfl rfl (any_of HT_.out (by kernel_rfl)) (fun _ _ _ h => h) (Or.inr ⟨by rfl, rfl⟩) ?_ ?_
    rotate_left; focus (simp only [Act.put, List.setIfInBounds_toArray, List.set_cons_zero, List.set_cons_succ, i64_w, i32_w]; rfl)
    refine pure_ (i := 25) (N := some 69) (v := undef) (a' := ?_) backreachlaw11_SpanMeets.M66 rfl rfl (any_of HT_.out (by kernel_rfl)) (fun _ _ _ h => h) (Or.inr ⟨by rfl, rfl⟩) ?_ ?_
    rotate_left; focus (simp only [Act.put, List.setIfInBounds_toArray, List.set_cons_zero, List.set_cons_succ, i64_w, i32_w]; rfl)
    refine pure_ (i := 26) (N := some 70) (v := undef) (a' := ?_) backreachlaw11_SpanMeets.M68 rfl rfl (any_of HT_.out (by kernel_rfl)) (fun _ _ _ h => h) (Or.inr ⟨by rfl, rfl⟩) ?_ ?_
    rotate_left; focus (simp only [Act.put, List.setIfInBounds_toArray, List.set_cons_zero, List.set_cons_succ, i64_w, i32_w]; rfl)
    refine pure_ (i := 27) (N := some 71) (v := undef) (a' := ?_) backreachlaw11_SpanMeets.M70 rfl rfl (any_of HT_.out (by kernel_rfl)) (fun _ _ _ h => h) (Or.inr ⟨by rfl, rfl⟩) ?_ ?_
    rotate_left; focus (simp only [Act.put, List.setIfInBounds_toArray, List.set_cons_zero, List.set_cons_succ, i64_w, i32_w]; rfl)
    refine pure_ (i := 28) (N := some 72) (v := undef) (a' := ?_) backreachlaw11_SpanMeets.M72 rfl rfl (any_of HT_.out (by kernel_rfl)) (fun _ _ _ h => h) (Or.inr ⟨by rfl, rfl⟩) ?_ ?_
    rotate_left; focus (simp only [Act.put, List.setIfInBounds_toArray, List.set_cons_zero, List.set_cons_succ, i64_w, i32_w]; rfl)
    refine pq_ 29 73 ?_ backreachlaw11_SpanMeets.M75 HT_.out ?_ ?_ ?_ ?_
    rotate_left; focus (intro w'; go_simp; with_reducible rfl)
    rotate_left; focus (simp only [Act.put, List.setIfInBounds_toArray, List.set_cons_zero, List.set_cons_succ, i64_w, i32_w]; rfl)
    refine done_ (done_of HT_.out (by kernel_rfl)) ?_
    try go_wp2
    go_meet
    case rel => exact ⟨_, (true), (by first | rfl | (simp; done) | (simp [*]; done)), H', ⟨by first | omega | exact Nat.le_refl _⟩, ⟨by (with_reducible repeat (first | refine blk_drewN ?_ _ | refine blk_drew ?_ | refine blk_alloc ?_ _)); exact BK192.out⟩, ⟨by (with_reducible repeat (first | refine blk_drewN ?_ _ | refine blk_drew ?_ | refine blk_alloc ?_ _)); exact BK193.out⟩, ⟨by (with_reducible repeat (first | refine blk_drewN ?_ _ | refine blk_drew ?_ | refine blk_alloc ?_ _)); exact BK198.out⟩, ⟨by (with_reducible repeat (first | refine blk_drewN ?_ _ | refine blk_drew ?_ | refine blk_alloc ?_ _)); exact BK202.out⟩, ⟨by (with_reducible repeat (first | refine blk_drewN ?_ _ | refine blk_drew ?_ | refine blk_alloc ?_ _)); exact BK205.out⟩, ⟨by repeat (first | (with_reducible first | exact HB.out | apply below_alloc | apply pw_below_drewN | apply below_drew1 | refine below_set ?_ GE192.out | refine below_set ?_ GE193.out | refine below_set ?_ GE198.out | refine below_set ?_ GE202.out | refine below_set ?_ GE205.out) | exact HB.out)⟩⟩
   ·
    rw [if_neg c45] at H
    have c45b0 : (t197 != t201) = false := by simpa using c45
    (try (have c45b1 : decide (t197 = t201) = true := by simpa using c45))
    (try (have c45b2 : (t197 == t201) = true := by simpa using c45))
    clear c45
    (first | rw [c45b0] | (simp only [i64_w, i32_w]; rw [c45b0]) | skip)
    by_cases c47 : (!(t195 == t199) || (!(t196 == t200))) = true
    ·
     rw [if_pos c47] at H
     have c47b0 : (!(t195 == t199) || (!(t196 == t200))) = true := c47
     clear c47
     have H' := Aside0.mk H
     clear H
     try go_wp2
     have n0_ := Aside0.mk (blk_drew BK192.out)
     have n1_ := Aside0.mk (blk_drew BK193.out)
     have n2_ := Aside0.mk (blk_drew BK198.out)
     have n3_ := Aside0.mk (blk_drew BK202.out)
     have n4_ := Aside0.mk (blk_drew BK205.out)
     have n5_ := Aside0.mk (below_drew1 HB.out)
     clear BK192 BK193 BK198 BK202 BK205 HB
     have BK192 := n0_
     have BK193 := n1_
     have BK198 := n2_
     have BK202 := n3_
     have BK205 := n4_
     have HB := n5_
     clear n0_ n1_ n2_ n3_ n4_ n5_
     refine start_ (n := 30) (S := fun w' => w'.cell? ⟨gb198, 0, none⟩ = some (.int .u64 t195) ∧ w'.cell? ⟨gb198, 1, none⟩ = some (.int .u64 t196) ∧ w'.cell? ⟨gb202, 0, none⟩ = some (.int .u64 t199) ∧ w'.cell? ⟨gb202, 1, none⟩ = some (.int .u64 t200)) (ds := []) backreachlaw11_SpanMeets.M1 (by kernel_rfl) rfl rfl ⟨(blk_cell BK198.out 0).trans rfl, (blk_cell BK198.out 1).trans rfl, (blk_cell BK202.out 0).trans rfl, (blk_cell BK202.out 1).trans rfl⟩ (fun hHeld => ?_); refine with_tabW backreachlaw11_SpanMeets.tab7 backreachlaw11_SpanMeets.bits7 (fun HT_ HW_ => ?_)
     generalize w44.drew = w48 at BK192 BK193 BK198 BK202 BK205 HB hHeld ⊢
     refine pq_ 0 44 ?_ backreachlaw11_SpanMeets.M4 HT_.out ?_ ?_ ?_ ?_
     rotate_left; focus (intro w'; go_simp; with_reducible rfl)
     rotate_left; focus (simp only [Act.put, List.setIfInBounds_toArray, List.set_cons_zero, List.set_cons_succ, i64_w, i32_w]; rfl)
     refine pq_ 1 45 ?_ backreachlaw11_SpanMeets.M10 HT_.out ?_ ?_ ?_ ?_
     rotate_left; focus (intro w'; go_simp; with_reducible rfl)
     rotate_left; focus (simp only [Act.put, List.setIfInBounds_toArray, List.set_cons_zero, List.set_cons_succ, i64_w, i32_w]; rfl)
     refine pq_ 2 46 ?_ backreachlaw11_SpanMeets.M12 HT_.out ?_ ?_ ?_ ?_
     rotate_left; focus (intro w'; go_simp; with_reducible rfl)
     rotate_left; focus (simp only [Act.put, List.setIfInBounds_toArray, List.set_cons_zero, List.set_cons_succ, i64_w, i32_w]; rfl)
     refine pq_ 3 47 ?_ backreachlaw11_SpanMeets.M16 HT_.out ?_ ?_ ?_ ?_
     rotate_left; focus (intro w'; go_simp; with_reducible rfl)
     rotate_left; focus (simp only [Act.put, List.setIfInBounds_toArray, List.set_cons_zero, List.set_cons_succ, i64_w, i32_w]; rfl)
     refine take_ (i := 4) (N := some 48) (v := ?_) (a' := ?_) backreachlaw11_SpanMeets.M18 rfl rfl (take_ofW HT_.out HW_.out (by kernel_rfl)) (fun _ _ _ h => h) (Or.inl ⟨by rfl, ?_⟩) hHeld ?_ ?_
     rotate_left; focus (rintro w' ⟨s0, s1, s2, s3⟩; go_simp; with_reducible rfl)
     rotate_left; focus (simp only [Act.put, List.setIfInBounds_toArray, List.set_cons_zero, List.set_cons_succ, i64_w, i32_w]; rfl)
     refine take_ (i := 5) (N := some 49) (v := ?_) (a' := ?_) backreachlaw11_SpanMeets.M20 rfl rfl (take_ofW HT_.out HW_.out (by kernel_rfl)) (fun _ _ _ h => h) (Or.inl ⟨by rfl, ?_⟩) hHeld ?_ ?_
     rotate_left; focus (rintro w' ⟨s0, s1, s2, s3⟩; go_simp; with_reducible rfl)
     rotate_left; focus (simp only [Act.put, List.setIfInBounds_toArray, List.set_cons_zero, List.set_cons_succ, i64_w, i32_w]; rfl)
     refine pq_ 6 50 ?_ backreachlaw11_SpanMeets.M22 HT_.out ?_ ?_ ?_ ?_
     rotate_left; focus (intro w'; go_simp; with_reducible rfl)
     rotate_left; focus (simp only [Act.put, List.setIfInBounds_toArray, List.set_cons_zero, List.set_cons_succ, i64_w, i32_w]; rfl)
     refine pq_ 7 51 ?_ backreachlaw11_SpanMeets.M25 HT_.out ?_ ?_ ?_ ?_
     rotate_left; focus (intro w'; go_simp; with_reducible rfl)
     rotate_left; focus (simp only [Act.put, List.setIfInBounds_toArray, List.set_cons_zero, List.set_cons_succ, i64_w, i32_w]; rfl)
     refine pq_ 8 52 ?_ backreachlaw11_SpanMeets.M29 HT_.out ?_ ?_ ?_ ?_
     rotate_left; focus (intro w'; go_simp; with_reducible rfl)
     rotate_left; focus (simp only [Act.put, List.setIfInBounds_toArray, List.set_cons_zero, List.set_cons_succ, i64_w, i32_w]; rfl)
     refine pure_ (i := 9) (N := some 53) (v := undef) (a' := ?_) backreachlaw11_SpanMeets.M33 rfl rfl (any_of HT_.out (by kernel_rfl)) (fun _ _ _ h => h) (Or.inr ⟨by rfl, rfl⟩) ?_ ?_
     rotate_left; focus (simp only [Act.put, List.setIfInBounds_toArray, List.set_cons_zero, List.set_cons_succ, i64_w, i32_w]; rfl)
     refine pure_ (i := 10) (N := some 54) (v := undef) (a' := ?_) backreachlaw11_SpanMeets.M35 rfl rfl (any_of HT_.out (by kernel_rfl)) (fun _ _ _ h => h) (Or.inr ⟨by rfl, rfl⟩) ?_ ?_
     rotate_left; focus (simp only [Act.put, List.setIfInBounds_toArray, List.set_cons_zero, List.set_cons_succ, i64_w, i32_w]; rfl)
     refine pure_ (i := 11) (N := some 55) (v := undef) (a' := ?_) backreachlaw11_SpanMeets.M37 rfl rfl (any_of HT_.out (by kernel_rfl)) (fun _ _ _ h => h) (Or.inr ⟨by rfl, rfl⟩) ?_ ?_
     rotate_left; focus (simp only [Act.put, List.setIfInBounds_toArray, List.set_cons_zero, List.set_cons_succ, i64_w, i32_w]; rfl)
     refine pure_ (i := 12) (N := some 56) (v := undef) (a' := ?_) backreachlaw11_SpanMeets.M39 rfl rfl (any_of HT_.out (by kernel_rfl)) (fun _ _ _ h => h) (Or.inr ⟨by rfl, rfl⟩) ?_ ?_
     rotate_left; focus (simp only [Act.put, List.setIfInBounds_toArray, List.set_cons_zero, List.set_cons_succ, i64_w, i32_w]; rfl)
     refine pure_ (i := 13) (N := some 57) (v := undef) (a' := ?_) backreachlaw11_SpanMeets.M41 rfl rfl (any_of HT_.out (by kernel_rfl)) (fun _ _ _ h => h) (Or.inr ⟨by rfl, rfl⟩) ?_ ?_
     rotate_left; focus (simp only [Act.put, List.setIfInBounds_toArray, List.set_cons_zero, List.set_cons_succ, i64_w, i32_w]; rfl)
     refine pure_ (i := 14) (N := some 58) (v := undef) (a' := ?_) backreachlaw11_SpanMeets.M43 rfl rfl (any_of HT_.out (by kernel_rfl)) (fun _ _ _ h => h) (Or.inr ⟨by rfl, rfl⟩) ?_ ?_
     rotate_left; focus (simp only [Act.put, List.setIfInBounds_toArray, List.set_cons_zero, List.set_cons_succ, i64_w, i32_w]; rfl)
     refine pq_ 15 59 ?_ backreachlaw11_SpanMeets.M45 HT_.out ?_ ?_ ?_ ?_
     rotate_left; focus (intro w'; go_simp; with_reducible rfl)
     rotate_left; focus (simp only [Act.put, List.setIfInBounds_toArray, List.set_cons_zero, List.set_cons_succ, i64_w, i32_w]; rfl)
     refine pq_ 16 60 ?_ backreachlaw11_SpanMeets.M47 HT_.out ?_ ?_ ?_ ?_
     rotate_left; focus (intro w'; go_simp; with_reducible rfl)
     rotate_left; focus (simp only [Act.put, List.setIfInBounds_toArray, List.set_cons_zero, List.set_cons_succ, i64_w, i32_w]; rfl)
     refine pure_ (i := 17) (N := some 61) (v := undef) (a' := ?_) backreachlaw11_SpanMeets.M49 rfl rfl (any_of HT_.out (by kernel_rfl)) (fun _ _ _ h => h) (Or.inr ⟨by rfl, rfl⟩) ?_ ?_
     rotate_left; focus (simp only [Act.put, List.setIfInBounds_toArray, List.set_cons_zero, List.set_cons_succ, i64_w, i32_w]; rfl)
     refine pure_ (i := 18) (N := some 62) (v := undef) (a' := ?_) backreachlaw11_SpanMeets.M51 rfl rfl (any_of HT_.out (by kernel_rfl)) (fun _ _ _ h => h) (Or.inr ⟨by rfl, rfl⟩) ?_ ?_
     rotate_left; focus (simp only [Act.put, List.setIfInBounds_toArray, List.set_cons_zero, List.set_cons_succ, i64_w, i32_w]; rfl)
     refine pure_ (i := 19) (N := some 63) (v := undef) (a' := ?_) backreachlaw11_SpanMeets.M53 rfl rfl (any_of HT_.out (by kernel_rfl)) (fun _ _ _ h => h) (Or.inr ⟨by rfl, rfl⟩) ?_ ?_
     rotate_left; focus (simp only [Act.put, List.setIfInBounds_toArray, List.set_cons_zero, List.set_cons_succ, i64_w, i32_w]; rfl)
     refine pure_ (i := 20) (N := some 64) (v := undef) (a' := ?_) backreachlaw11_SpanMeets.M55 rfl rfl (any_of HT_.out (by kernel_rfl)) (fun _ _ _ h => h) (Or.inr ⟨by rfl, rfl⟩) ?_ ?_
     rotate_left; focus (simp only [Act.put, List.setIfInBounds_toArray, List.set_cons_zero, List.set_cons_succ, i64_w, i32_w]; rfl)
     refine pure_ (i := 21) (N := some 65) (v := undef) (a' := ?_) backreachlaw11_SpanMeets.M57 rfl rfl (any_of HT_.out (by kernel_rfl)) (fun _ _ _ h => h) (Or.inr ⟨by rfl, rfl⟩) ?_ ?_
     rotate_left; focus (simp only [Act.put, List.setIfInBounds_toArray, List.set_cons_zero, List.set_cons_succ, i64_w, i32_w]; rfl)
     refine pure_ (i := 22) (N := some 66) (v := undef) (a' := ?_) backreachlaw11_SpanMeets.M59 rfl rfl (any_of HT_.out (by kernel_rfl)) (fun _ _ _ h => h) (Or.inr ⟨by rfl, rfl⟩) ?_ ?_
     rotate_left; focus (simp only [Act.put, List.setIfInBounds_toArray, List.set_cons_zero, List.set_cons_succ, i64_w, i32_w]; rfl)
     refine pure_ (i := 23) (N := some 67) (v := undef) (a' := ?_) backreachlaw11_SpanMeets.M61 rfl rfl (any_of HT_.out (by kernel_rfl)) (fun _ _ _ h => h) (Or.inr ⟨by rfl, rfl⟩) ?_ ?_
     rotate_left; focus (simp only [Act.put, List.setIfInBounds_toArray, List.set_cons_zero, List.set_cons_succ, i64_w, i32_w]; rfl)
     refine pure_ (i := 24) (N := some 68) (v := undef) (a' := ?_) backreachlaw11_SpanMeets.M64 rfl rfl (any_of HT_.out (by kernel_rfl)) (fun _ _ _ h => h) (Or.inr ⟨by rfl, rfl⟩) ?_ ?_
     rotate_left; focus (simp only [Act.put, List.setIfInBounds_toArray, List.set_cons_zero, List.set_cons_succ, i64_w, i32_w]; rfl)
     refine pure_ (i := 25) (N := some 69) (v := undef) (a' := ?_) backreachlaw11_SpanMeets.M66 rfl rfl (any_of HT_.out (by kernel_rfl)) (fun _ _ _ h => h) (Or.inr ⟨by rfl, rfl⟩) ?_ ?_
     rotate_left; focus (simp only [Act.put, List.setIfInBounds_toArray, List.set_cons_zero, List.set_cons_succ, i64_w, i32_w]; rfl)
     refine pure_ (i := 26) (N := some 70) (v := undef) (a' := ?_) backreachlaw11_SpanMeets.M68 rfl rfl (any_of HT_.out (by kernel_rfl)) (fun _ _ _ h => h) (Or.inr ⟨by rfl, rfl⟩) ?_ ?_
     rotate_left; focus (simp only [Act.put, List.setIfInBounds_toArray, List.set_cons_zero, List.set_cons_succ, i64_w, i32_w]; rfl)
     refine pure_ (i := 27) (N := some 71) (v := undef) (a' := ?_) backreachlaw11_SpanMeets.M70 rfl rfl (any_of HT_.out (by kernel_rfl)) (fun _ _ _ h => h) (Or.inr ⟨by rfl, rfl⟩) ?_ ?_
     rotate_left; focus (simp only [Act.put, List.setIfInBounds_toArray, List.set_cons_zero, List.set_cons_succ, i64_w, i32_w]; rfl)
     refine pure_ (i := 28) (N := some 72) (v := undef) (a' := ?_) backreachlaw11_SpanMeets.M72 rfl rfl (any_of HT_.out (by kernel_rfl)) (fun _ _ _ h => h) (Or.inr ⟨by rfl, rfl⟩) ?_ ?_
     rotate_left; focus (simp only [Act.put, List.setIfInBounds_toArray, List.set_cons_zero, List.set_cons_succ, i64_w, i32_w]; rfl)
     refine pq_ 29 73 ?_ backreachlaw11_SpanMeets.M75 HT_.out ?_ ?_ ?_ ?_
     rotate_left; focus (intro w'; go_simp; with_reducible rfl)
     rotate_left; focus (simp only [Act.put, List.setIfInBounds_toArray, List.set_cons_zero, List.set_cons_succ, i64_w, i32_w]; rfl)
     refine done_ (done_of HT_.out (by kernel_rfl)) ?_
     try go_wp2
     go_meet
     case rel => exact ⟨_, (true), (by first | rfl | (simp; done) | (simp [*]; done)), H', ⟨by first | omega | exact Nat.le_refl _⟩, ⟨by (with_reducible repeat (first | refine blk_drewN ?_ _ | refine blk_drew ?_ | refine blk_alloc ?_ _)); exact BK192.out⟩, ⟨by (with_reducible repeat (first | refine blk_drewN ?_ _ | refine blk_drew ?_ | refine blk_alloc ?_ _)); exact BK193.out⟩, ⟨by (with_reducible repeat (first | refine blk_drewN ?_ _ | refine blk_drew ?_ | refine blk_alloc ?_ _)); exact BK198.out⟩, ⟨by (with_reducible repeat (first | refine blk_drewN ?_ _ | refine blk_drew ?_ | refine blk_alloc ?_ _)); exact BK202.out⟩, ⟨by (with_reducible repeat (first | refine blk_drewN ?_ _ | refine blk_drew ?_ | refine blk_alloc ?_ _)); exact BK205.out⟩, ⟨by repeat (first | (with_reducible first | exact HB.out | apply below_alloc | apply pw_below_drewN | apply below_drew1 | refine below_set ?_ GE192.out | refine below_set ?_ GE193.out | refine below_set ?_ GE198.out | refine below_set ?_ GE202.out | refine below_set ?_ GE205.out) | exact HB.out)⟩⟩
    ·
     rw [if_neg c47] at H
     have c47b0 : (!(t195 == t199) || (!(t196 == t200))) = false := by simpa using c47
     clear c47
     replace H := Option.bind_eq_some_iff.mp H
     obtain ⟨⟨t208, t209⟩, A490, H⟩ := H
     replace H : (if (!(t203 == t208) || (!(t204 == t209))) = true then (backreachlaw11_SpanMeets.j0 k a0 a3 t206 t207 true a1_0 a1_1 a2_0 a2_1 t203 t204) else (if t206 = true then (if t197 = true then ((span_Has.f a0 t195 t196 a3).bind fun t210 => (backreachlaw11_SpanMeets.j0 k a0 a3 t206 t207 (t207 != t210) a1_0 a1_1 a2_0 a2_1 t203 t204)) else (backreachlaw11_SpanMeets.j0 k a0 a3 t206 t207 (t207 != false) a1_0 a1_1 a2_0 a2_1 t203 t204)) else (if t197 = true then ((span_Has.f a0 t195 t196 a3).bind fun t211 => (backreachlaw11_SpanMeets.j0 k a0 a3 t206 t207 (false != t211) a1_0 a1_1 a2_0 a2_1 t203 t204)) else (backreachlaw11_SpanMeets.j0 k a0 a3 t206 t207 (false != false) a1_0 a1_1 a2_0 a2_1 t203 t204)))) = some r := H
     have A49 := Aside0.mk A490
     clear A490
     by_cases c50 : (!(t203 == t208) || (!(t204 == t209))) = true
     ·
      rw [if_pos c50] at H
      have c50b0 : (!(t203 == t208) || (!(t204 == t209))) = true := c50
      clear c50
      have H' := Aside0.mk H
      clear H
      try go_wp2
      have n0_ := Aside0.mk (blk_drew BK192.out)
      have n1_ := Aside0.mk (blk_drew BK193.out)
      have n2_ := Aside0.mk (blk_drew BK198.out)
      have n3_ := Aside0.mk (blk_drew BK202.out)
      have n4_ := Aside0.mk (blk_drew BK205.out)
      have n5_ := Aside0.mk (below_drew1 HB.out)
      clear BK192 BK193 BK198 BK202 BK205 HB
      have BK192 := n0_
      have BK193 := n1_
      have BK198 := n2_
      have BK202 := n3_
      have BK205 := n4_
      have HB := n5_
      clear n0_ n1_ n2_ n3_ n4_ n5_
      refine start_ (n := 30) (S := fun w' => w'.cell? ⟨gb198, 0, none⟩ = some (.int .u64 t195) ∧ w'.cell? ⟨gb198, 1, none⟩ = some (.int .u64 t196) ∧ w'.cell? ⟨gb202, 0, none⟩ = some (.int .u64 t199) ∧ w'.cell? ⟨gb202, 1, none⟩ = some (.int .u64 t200) ∧ w'.cell? ⟨gb205, 0, none⟩ = some (.int .u64 t203) ∧ w'.cell? ⟨gb205, 1, none⟩ = some (.int .u64 t204) ∧ w'.cell? ⟨gb193, 0, none⟩ = some (.int .u64 a2_0) ∧ w'.cell? ⟨gb193, 1, none⟩ = some (.int .u64 a2_1) ∧ w'.cell? ⟨gb192, 0, none⟩ = some (.int .u64 a1_0) ∧ w'.cell? ⟨gb192, 1, none⟩ = some (.int .u64 a1_1)) (ds := []) backreachlaw11_SpanMeets.M1 (by kernel_rfl) rfl rfl ⟨(blk_cell BK198.out 0).trans rfl, (blk_cell BK198.out 1).trans rfl, (blk_cell BK202.out 0).trans rfl, (blk_cell BK202.out 1).trans rfl, (blk_cell BK205.out 0).trans rfl, (blk_cell BK205.out 1).trans rfl, (blk_cell BK193.out 0).trans rfl, (blk_cell BK193.out 1).trans rfl, (blk_cell BK192.out 0).trans rfl, (blk_cell BK192.out 1).trans rfl⟩ (fun hHeld => ?_); refine with_tabW backreachlaw11_SpanMeets.tab7 backreachlaw11_SpanMeets.bits7 (fun HT_ HW_ => ?_)
      generalize w44.drew = w51 at BK192 BK193 BK198 BK202 BK205 HB hHeld ⊢
      refine pq_ 0 44 ?_ backreachlaw11_SpanMeets.M4 HT_.out ?_ ?_ ?_ ?_
      rotate_left; focus (intro w'; go_simp; with_reducible rfl)
      rotate_left; focus (simp only [Act.put, List.setIfInBounds_toArray, List.set_cons_zero, List.set_cons_succ, i64_w, i32_w]; rfl)
      refine pq_ 1 45 ?_ backreachlaw11_SpanMeets.M10 HT_.out ?_ ?_ ?_ ?_
      rotate_left; focus (intro w'; go_simp; with_reducible rfl)
      rotate_left; focus (simp only [Act.put, List.setIfInBounds_toArray, List.set_cons_zero, List.set_cons_succ, i64_w, i32_w]; rfl)
      refine pq_ 2 46 ?_ backreachlaw11_SpanMeets.M12 HT_.out ?_ ?_ ?_ ?_
      rotate_left; focus (intro w'; go_simp; with_reducible rfl)
      rotate_left; focus (simp only [Act.put, List.setIfInBounds_toArray, List.set_cons_zero, List.set_cons_succ, i64_w, i32_w]; rfl)
      refine pq_ 3 47 ?_ backreachlaw11_SpanMeets.M16 HT_.out ?_ ?_ ?_ ?_
      rotate_left; focus (intro w'; go_simp; with_reducible rfl)
      rotate_left; focus (simp only [Act.put, List.setIfInBounds_toArray, List.set_cons_zero, List.set_cons_succ, i64_w, i32_w]; rfl)
      refine take_ (i := 4) (N := some 48) (v := ?_) (a' := ?_) backreachlaw11_SpanMeets.M18 rfl rfl (take_ofW HT_.out HW_.out (by kernel_rfl)) (fun _ _ _ h => h) (Or.inl ⟨by rfl, ?_⟩) hHeld ?_ ?_
      rotate_left; focus (rintro w' ⟨s0, s1, s2, s3, s4, s5, s6, s7, s8, s9⟩; go_simp; with_reducible rfl)
      rotate_left; focus (simp only [Act.put, List.setIfInBounds_toArray, List.set_cons_zero, List.set_cons_succ, i64_w, i32_w]; rfl)
      refine take_ (i := 5) (N := some 49) (v := ?_) (a' := ?_) backreachlaw11_SpanMeets.M20 rfl rfl (take_ofW HT_.out HW_.out (by kernel_rfl)) (fun _ _ _ h => h) (Or.inl ⟨by rfl, ?_⟩) hHeld ?_ ?_
      rotate_left; focus (rintro w' ⟨s0, s1, s2, s3, s4, s5, s6, s7, s8, s9⟩; go_simp; with_reducible rfl)
      rotate_left; focus (simp only [Act.put, List.setIfInBounds_toArray, List.set_cons_zero, List.set_cons_succ, i64_w, i32_w]; rfl)
      refine pq_ 6 50 ?_ backreachlaw11_SpanMeets.M22 HT_.out ?_ ?_ ?_ ?_
      rotate_left; focus (intro w'; go_simp; with_reducible rfl)
      rotate_left; focus (simp only [Act.put, List.setIfInBounds_toArray, List.set_cons_zero, List.set_cons_succ, i64_w, i32_w]; rfl)
      refine pq_ 7 51 ?_ backreachlaw11_SpanMeets.M25 HT_.out ?_ ?_ ?_ ?_
      rotate_left; focus (intro w'; go_simp; with_reducible rfl)
      rotate_left; focus (simp only [Act.put, List.setIfInBounds_toArray, List.set_cons_zero, List.set_cons_succ, i64_w, i32_w]; rfl)
      refine pq_ 8 52 ?_ backreachlaw11_SpanMeets.M29 HT_.out ?_ ?_ ?_ ?_
      rotate_left; focus (intro w'; go_simp; with_reducible rfl)
      rotate_left; focus (simp only [Act.put, List.setIfInBounds_toArray, List.set_cons_zero, List.set_cons_succ, i64_w, i32_w]; rfl)
      refine pq_ 10 54 ?_ backreachlaw11_SpanMeets.M30 HT_.out ?_ ?_ ?_ ?_
      rotate_left; focus (intro w'; go_simp; with_reducible rfl)
      rotate_left; focus (simp only [Act.put, List.setIfInBounds_toArray, List.set_cons_zero, List.set_cons_succ, i64_w, i32_w]; rfl)
      refine take_ (i := 9) (N := some 53) (v := ?_) (a' := ?_) backreachlaw11_SpanMeets.M35 rfl rfl (take_ofW HT_.out HW_.out (by kernel_rfl)) (fun _ _ _ h => h) (Or.inl ⟨by rfl, ?_⟩) hHeld ?_ ?_
      rotate_left; focus (rintro w' ⟨s0, s1, s2, s3, s4, s5, s6, s7, s8, s9⟩; go_simp; with_reducible rfl)
      rotate_left; focus (simp only [Act.put, List.setIfInBounds_toArray, List.set_cons_zero, List.set_cons_succ, i64_w, i32_w]; rfl)
      refine take_ (i := 11) (N := some 55) (v := ?_) (a' := ?_) backreachlaw11_SpanMeets.M37 rfl rfl (take_ofW HT_.out HW_.out (by kernel_rfl)) (fun _ _ _ h => h) (Or.inl ⟨by rfl, ?_⟩) hHeld ?_ ?_
      rotate_left; focus (rintro w' ⟨s0, s1, s2, s3, s4, s5, s6, s7, s8, s9⟩; go_simp; with_reducible rfl)
      rotate_left; focus (simp only [Act.put, List.setIfInBounds_toArray, List.set_cons_zero, List.set_cons_succ, i64_w, i32_w]; rfl)
      refine take_ (i := 12) (N := some 56) (v := ?_) (a' := ?_) backreachlaw11_SpanMeets.M39 rfl rfl (take_ofW HT_.out HW_.out (by kernel_rfl)) (fun _ _ _ h => h) (Or.inl ⟨by rfl, ?_⟩) hHeld ?_ ?_
      rotate_left; focus (rintro w' ⟨s0, s1, s2, s3, s4, s5, s6, s7, s8, s9⟩; go_simp; with_reducible rfl)
      rotate_left; focus (simp only [Act.put, List.setIfInBounds_toArray, List.set_cons_zero, List.set_cons_succ, i64_w, i32_w]; rfl)
      refine one_ (i := 13) (N := some 57) backreachlaw11_SpanMeets.M41 rfl rfl (one_of HT_.out (by kernel_rfl)) (by decide) (fun K hK => ?_)
      refine goes_ Try.func15 (by kernel_rfl) rfl #[.int .i64 a0, .agg #[.int .u64 a2_0, .int .u64 a2_1], .agg #[.int .u64 a1_0, .int .u64 a1_1]] (by rfl) rfl rfl (by (try simp only [List.map_toArray, List.map_cons, List.map_nil]); first | done | rfl | (simp only [List.length_drop, List.length_take]; rfl)) ?_
      with_reducible refine (span_Join.calls a0 a2_0 a2_1 a1_0 a1_1 t208 t209 _ A49.out).mono ?_
      rintro e w52 ⟨rfl, hb⟩
      refine ⟨_, rfl, ?_⟩
      have n0_ := Aside0.mk (bbq BK192 hb)
      have n1_ := Aside0.mk (bbq BK193 hb)
      have n2_ := Aside0.mk (bbq BK198 hb)
      have n3_ := Aside0.mk (bbq BK202 hb)
      have n4_ := Aside0.mk (bbq BK205 hb)
      have n5_ := Aside0.mk (below_step (hbq HB) hb)
      clear BK192 BK193 BK198 BK202 BK205 HB
      have BK192 := n0_
      have BK193 := n1_
      have BK198 := n2_
      have BK202 := n3_
      have BK205 := n4_
      have HB := n5_
      clear n0_ n1_ n2_ n3_ n4_ n5_
      (try clear hb)
      (try clear hb2)
      (try clear hk)
      (try clear hi)
      refine hK.out _ _ ⟨(blk_cell BK198.out 0).trans rfl, (blk_cell BK198.out 1).trans rfl, (blk_cell BK202.out 0).trans rfl, (blk_cell BK202.out 1).trans rfl, (blk_cell BK205.out 0).trans rfl, (blk_cell BK205.out 1).trans rfl, (blk_cell BK193.out 0).trans rfl, (blk_cell BK193.out 1).trans rfl, (blk_cell BK192.out 0).trans rfl, (blk_cell BK192.out 1).trans rfl⟩ (fun hHeld => ?_)
      clear hK K
      refine norm_ (a' := ?_) ?_ ?_
      rotate_left
      ·
       show Act.put _ (some 57) _ = _
       simp only [Act.put, List.setIfInBounds_toArray, List.set_cons_zero, List.set_cons_succ, i64_w, i32_w]
       rfl
      refine pq_ 14 58 ?_ backreachlaw11_SpanMeets.M43 HT_.out ?_ ?_ ?_ ?_
      rotate_left; focus (intro w'; go_simp; with_reducible rfl)
      rotate_left; focus (simp only [Act.put, List.setIfInBounds_toArray, List.set_cons_zero, List.set_cons_succ, i64_w, i32_w]; rfl)
      refine pq_ 15 59 ?_ backreachlaw11_SpanMeets.M45 HT_.out ?_ ?_ ?_ ?_
      rotate_left; focus (intro w'; go_simp; with_reducible rfl)
      rotate_left; focus (simp only [Act.put, List.setIfInBounds_toArray, List.set_cons_zero, List.set_cons_succ, i64_w, i32_w]; rfl)
      refine pq_ 16 60 ?_ backreachlaw11_SpanMeets.M47 HT_.out ?_ ?_ ?_ ?_
      rotate_left; focus (intro w'; go_simp; with_reducible rfl)
      rotate_left; focus (simp only [Act.put, List.setIfInBounds_toArray, List.set_cons_zero, List.set_cons_succ, i64_w, i32_w]; rfl)
      refine pure_ (i := 17) (N := some 61) (v := undef) (a' := ?_) backreachlaw11_SpanMeets.M49 rfl rfl (any_of HT_.out (by kernel_rfl)) (fun _ _ _ h => h) (Or.inr ⟨by rfl, rfl⟩) ?_ ?_
      rotate_left; focus (simp only [Act.put, List.setIfInBounds_toArray, List.set_cons_zero, List.set_cons_succ, i64_w, i32_w]; rfl)
      refine pure_ (i := 18) (N := some 62) (v := undef) (a' := ?_) backreachlaw11_SpanMeets.M51 rfl rfl (any_of HT_.out (by kernel_rfl)) (fun _ _ _ h => h) (Or.inr ⟨by rfl, rfl⟩) ?_ ?_
      rotate_left; focus (simp only [Act.put, List.setIfInBounds_toArray, List.set_cons_zero, List.set_cons_succ, i64_w, i32_w]; rfl)
      refine pure_ (i := 19) (N := some 63) (v := undef) (a' := ?_) backreachlaw11_SpanMeets.M53 rfl rfl (any_of HT_.out (by kernel_rfl)) (fun _ _ _ h => h) (Or.inr ⟨by rfl, rfl⟩) ?_ ?_
      rotate_left; focus (simp only [Act.put, List.setIfInBounds_toArray, List.set_cons_zero, List.set_cons_succ, i64_w, i32_w]; rfl)
      refine pure_ (i := 20) (N := some 64) (v := undef) (a' := ?_) backreachlaw11_SpanMeets.M55 rfl rfl (any_of HT_.out (by kernel_rfl)) (fun _ _ _ h => h) (Or.inr ⟨by rfl, rfl⟩) ?_ ?_
      rotate_left; focus (simp only [Act.put, List.setIfInBounds_toArray, List.set_cons_zero, List.set_cons_succ, i64_w, i32_w]; rfl)
      refine pure_ (i := 21) (N := some 65) (v := undef) (a' := ?_) backreachlaw11_SpanMeets.M57 rfl rfl (any_of HT_.out (by kernel_rfl)) (fun _ _ _ h => h) (Or.inr ⟨by rfl, rfl⟩) ?_ ?_
      rotate_left; focus (simp only [Act.put, List.setIfInBounds_toArray, List.set_cons_zero, List.set_cons_succ, i64_w, i32_w]; rfl)
      refine pure_ (i := 22) (N := some 66) (v := undef) (a' := ?_) backreachlaw11_SpanMeets.M59 rfl rfl (any_of HT_.out (by kernel_rfl)) (fun _ _ _ h => h) (Or.inr ⟨by rfl, rfl⟩) ?_ ?_
      rotate_left; focus (simp only [Act.put, List.setIfInBounds_toArray, List.set_cons_zero, List.set_cons_succ, i64_w, i32_w]; rfl)
      refine pure_ (i := 23) (N := some 67) (v := undef) (a' := ?_) backreachlaw11_SpanMeets.M61 rfl rfl (any_of HT_.out (by kernel_rfl)) (fun _ _ _ h => h) (Or.inr ⟨by rfl, rfl⟩) ?_ ?_
      rotate_left; focus (simp only [Act.put, List.setIfInBounds_toArray, List.set_cons_zero, List.set_cons_succ, i64_w, i32_w]; rfl)
      refine pure_ (i := 24) (N := some 68) (v := undef) (a' := ?_) backreachlaw11_SpanMeets.M64 rfl rfl (any_of HT_.out (by kernel_rfl)) (fun _ _ _ h => h) (Or.inr ⟨by rfl, rfl⟩) ?_ ?_
      rotate_left; focus (simp only [Act.put, List.setIfInBounds_toArray, List.set_cons_zero, List.set_cons_succ, i64_w, i32_w]; rfl)
      refine pure_ (i := 25) (N := some 69) (v := undef) (a' := ?_) backreachlaw11_SpanMeets.M66 rfl rfl (any_of HT_.out (by kernel_rfl)) (fun _ _ _ h => h) (Or.inr ⟨by rfl, rfl⟩) ?_ ?_
      rotate_left; focus (simp only [Act.put, List.setIfInBounds_toArray, List.set_cons_zero, List.set_cons_succ, i64_w, i32_w]; rfl)
      refine pure_ (i := 26) (N := some 70) (v := undef) (a' := ?_) backreachlaw11_SpanMeets.M68 rfl rfl (any_of HT_.out (by kernel_rfl)) (fun _ _ _ h => h) (Or.inr ⟨by rfl, rfl⟩) ?_ ?_
      rotate_left; focus (simp only [Act.put, List.setIfInBounds_toArray, List.set_cons_zero, List.set_cons_succ, i64_w, i32_w]; rfl)
      refine pure_ (i := 27) (N := some 71) (v := undef) (a' := ?_) backreachlaw11_SpanMeets.M70 rfl rfl (any_of HT_.out (by kernel_rfl)) (fun _ _ _ h => h) (Or.inr ⟨by rfl, rfl⟩) ?_ ?_
      rotate_left; focus (simp only [Act.put, List.setIfInBounds_toArray, List.set_cons_zero, List.set_cons_succ, i64_w, i32_w]; rfl)
      refine pure_ (i := 28) (N := some 72) (v := undef) (a' := ?_) backreachlaw11_SpanMeets.M72 rfl rfl (any_of HT_.out (by kernel_rfl)) (fun _ _ _ h => h) (Or.inr ⟨by rfl, rfl⟩) ?_ ?_
      rotate_left; focus (simp only [Act.put, List.setIfInBounds_toArray, List.set_cons_zero, List.set_cons_succ, i64_w, i32_w]; rfl)
      refine pq_ 29 73 ?_ backreachlaw11_SpanMeets.M75 HT_.out ?_ ?_ ?_ ?_
      rotate_left; focus (intro w'; go_simp; with_reducible rfl)
      rotate_left; focus (simp only [Act.put, List.setIfInBounds_toArray, List.set_cons_zero, List.set_cons_succ, i64_w, i32_w]; rfl)
      refine done_ (done_of HT_.out (by kernel_rfl)) ?_
      try go_wp2
      go_meet
      case rel => exact ⟨_, (true), (by first | rfl | (simp; done) | (simp [*]; done)), H', ⟨by first | omega | exact Nat.le_refl _⟩, ⟨by (with_reducible repeat (first | refine blk_drewN ?_ _ | refine blk_drew ?_ | refine blk_alloc ?_ _)); exact BK192.out⟩, ⟨by (with_reducible repeat (first | refine blk_drewN ?_ _ | refine blk_drew ?_ | refine blk_alloc ?_ _)); exact BK193.out⟩, ⟨by (with_reducible repeat (first | refine blk_drewN ?_ _ | refine blk_drew ?_ | refine blk_alloc ?_ _)); exact BK198.out⟩, ⟨by (with_reducible repeat (first | refine blk_drewN ?_ _ | refine blk_drew ?_ | refine blk_alloc ?_ _)); exact BK202.out⟩, ⟨by (with_reducible repeat (first | refine blk_drewN ?_ _ | refine blk_drew ?_ | refine blk_alloc ?_ _)); exact BK205.out⟩, ⟨by repeat (first | (with_reducible first | exact HB.out | apply below_alloc | apply pw_below_drewN | apply below_drew1 | refine below_set ?_ GE192.out | refine below_set ?_ GE193.out | refine below_set ?_ GE198.out | refine below_set ?_ GE202.out | refine below_set ?_ GE205.out) | exact HB.out)⟩⟩
     ·
      rw [if_neg c50] at H
      have c50b0 : (!(t203 == t208) || (!(t204 == t209))) = false := by simpa using c50
      clear c50
      by_cases c53 : t206 = true
      ·
       subst c53
       have H1 : (if t197 = true then ((span_Has.f a0 t195 t196 a3).bind fun t210 => (backreachlaw11_SpanMeets.j0 k a0 a3 true t207 (t207 != t210) a1_0 a1_1 a2_0 a2_1 t203 t204)) else (backreachlaw11_SpanMeets.j0 k a0 a3 true t207 (t207 != false) a1_0 a1_1 a2_0 a2_1 t203 t204)) = some r := by rw [if_pos rfl] at H; exact H
       clear H
       have H := H1
       clear H1
       by_cases c54 : t197 = true
       ·
        subst c54
        have H1 : ((span_Has.f a0 t195 t196 a3).bind fun t210 => (backreachlaw11_SpanMeets.j0 k a0 a3 true t207 (t207 != t210) a1_0 a1_1 a2_0 a2_1 t203 t204)) = some r := by rw [if_pos rfl] at H; exact H
        clear H
        have H := H1
        clear H1
        replace H := Option.bind_eq_some_iff.mp H
        obtain ⟨t210, A550, H⟩ := H
        replace H : (backreachlaw11_SpanMeets.j0 k a0 a3 true t207 (t207 != t210) a1_0 a1_1 a2_0 a2_1 t203 t204) = some r := H
        have A55 := Aside0.mk A550
        clear A550
        have H' := Aside0.mk H
        clear H
        try go_wp2
        have n0_ := Aside0.mk (blk_drew BK192.out)
        have n1_ := Aside0.mk (blk_drew BK193.out)
        have n2_ := Aside0.mk (blk_drew BK198.out)
        have n3_ := Aside0.mk (blk_drew BK202.out)
        have n4_ := Aside0.mk (blk_drew BK205.out)
        have n5_ := Aside0.mk (below_drew1 HB.out)
        clear BK192 BK193 BK198 BK202 BK205 HB
        have BK192 := n0_
        have BK193 := n1_
        have BK198 := n2_
        have BK202 := n3_
        have BK205 := n4_
        have HB := n5_
        clear n0_ n1_ n2_ n3_ n4_ n5_
        refine start_ (n := 30) (S := fun w' => w'.cell? ⟨gb198, 0, none⟩ = some (.int .u64 t195) ∧ w'.cell? ⟨gb198, 1, none⟩ = some (.int .u64 t196) ∧ w'.cell? ⟨gb202, 0, none⟩ = some (.int .u64 t199) ∧ w'.cell? ⟨gb202, 1, none⟩ = some (.int .u64 t200) ∧ w'.cell? ⟨gb205, 0, none⟩ = some (.int .u64 t203) ∧ w'.cell? ⟨gb205, 1, none⟩ = some (.int .u64 t204) ∧ w'.cell? ⟨gb193, 0, none⟩ = some (.int .u64 a2_0) ∧ w'.cell? ⟨gb193, 1, none⟩ = some (.int .u64 a2_1) ∧ w'.cell? ⟨gb192, 0, none⟩ = some (.int .u64 a1_0) ∧ w'.cell? ⟨gb192, 1, none⟩ = some (.int .u64 a1_1)) (ds := []) backreachlaw11_SpanMeets.M1 (by kernel_rfl) rfl rfl ⟨(blk_cell BK198.out 0).trans rfl, (blk_cell BK198.out 1).trans rfl, (blk_cell BK202.out 0).trans rfl, (blk_cell BK202.out 1).trans rfl, (blk_cell BK205.out 0).trans rfl, (blk_cell BK205.out 1).trans rfl, (blk_cell BK193.out 0).trans rfl, (blk_cell BK193.out 1).trans rfl, (blk_cell BK192.out 0).trans rfl, (blk_cell BK192.out 1).trans rfl⟩ (fun hHeld => ?_); refine with_tabW backreachlaw11_SpanMeets.tab7 backreachlaw11_SpanMeets.bits7 (fun HT_ HW_ => ?_)
        generalize w44.drew = w56 at BK192 BK193 BK198 BK202 BK205 HB hHeld ⊢
        refine pq_ 0 44 ?_ backreachlaw11_SpanMeets.M4 HT_.out ?_ ?_ ?_ ?_
        rotate_left; focus (intro w'; go_simp; with_reducible rfl)
        rotate_left; focus (simp only [Act.put, List.setIfInBounds_toArray, List.set_cons_zero, List.set_cons_succ, i64_w, i32_w]; rfl)
        refine pq_ 1 45 ?_ backreachlaw11_SpanMeets.M10 HT_.out ?_ ?_ ?_ ?_
        rotate_left; focus (intro w'; go_simp; with_reducible rfl)
        rotate_left; focus (simp only [Act.put, List.setIfInBounds_toArray, List.set_cons_zero, List.set_cons_succ, i64_w, i32_w]; rfl)
        refine pq_ 2 46 ?_ backreachlaw11_SpanMeets.M12 HT_.out ?_ ?_ ?_ ?_
        rotate_left; focus (intro w'; go_simp; with_reducible rfl)
        rotate_left; focus (simp only [Act.put, List.setIfInBounds_toArray, List.set_cons_zero, List.set_cons_succ, i64_w, i32_w]; rfl)
        refine pq_ 3 47 ?_ backreachlaw11_SpanMeets.M16 HT_.out ?_ ?_ ?_ ?_
        rotate_left; focus (intro w'; go_simp; with_reducible rfl)
        rotate_left; focus (simp only [Act.put, List.setIfInBounds_toArray, List.set_cons_zero, List.set_cons_succ, i64_w, i32_w]; rfl)
        refine take_ (i := 4) (N := some 48) (v := ?_) (a' := ?_) backreachlaw11_SpanMeets.M18 rfl rfl (take_ofW HT_.out HW_.out (by kernel_rfl)) (fun _ _ _ h => h) (Or.inl ⟨by rfl, ?_⟩) hHeld ?_ ?_
        rotate_left; focus (rintro w' ⟨s0, s1, s2, s3, s4, s5, s6, s7, s8, s9⟩; go_simp; with_reducible rfl)
        rotate_left; focus (simp only [Act.put, List.setIfInBounds_toArray, List.set_cons_zero, List.set_cons_succ, i64_w, i32_w]; rfl)
        refine take_ (i := 5) (N := some 49) (v := ?_) (a' := ?_) backreachlaw11_SpanMeets.M20 rfl rfl (take_ofW HT_.out HW_.out (by kernel_rfl)) (fun _ _ _ h => h) (Or.inl ⟨by rfl, ?_⟩) hHeld ?_ ?_
        rotate_left; focus (rintro w' ⟨s0, s1, s2, s3, s4, s5, s6, s7, s8, s9⟩; go_simp; with_reducible rfl)
        rotate_left; focus (simp only [Act.put, List.setIfInBounds_toArray, List.set_cons_zero, List.set_cons_succ, i64_w, i32_w]; rfl)
        refine pq_ 6 50 ?_ backreachlaw11_SpanMeets.M22 HT_.out ?_ ?_ ?_ ?_
        rotate_left; focus (intro w'; go_simp; with_reducible rfl)
        rotate_left; focus (simp only [Act.put, List.setIfInBounds_toArray, List.set_cons_zero, List.set_cons_succ, i64_w, i32_w]; rfl)
        refine pq_ 7 51 ?_ backreachlaw11_SpanMeets.M25 HT_.out ?_ ?_ ?_ ?_
        rotate_left; focus (intro w'; go_simp; with_reducible rfl)
        rotate_left; focus (simp only [Act.put, List.setIfInBounds_toArray, List.set_cons_zero, List.set_cons_succ, i64_w, i32_w]; rfl)
        refine pq_ 8 52 ?_ backreachlaw11_SpanMeets.M29 HT_.out ?_ ?_ ?_ ?_
        rotate_left; focus (intro w'; go_simp; with_reducible rfl)
        rotate_left; focus (simp only [Act.put, List.setIfInBounds_toArray, List.set_cons_zero, List.set_cons_succ, i64_w, i32_w]; rfl)
        refine pq_ 10 54 ?_ backreachlaw11_SpanMeets.M30 HT_.out ?_ ?_ ?_ ?_
        rotate_left; focus (intro w'; go_simp; with_reducible rfl)
        rotate_left; focus (simp only [Act.put, List.setIfInBounds_toArray, List.set_cons_zero, List.set_cons_succ, i64_w, i32_w]; rfl)
        refine take_ (i := 9) (N := some 53) (v := ?_) (a' := ?_) backreachlaw11_SpanMeets.M35 rfl rfl (take_ofW HT_.out HW_.out (by kernel_rfl)) (fun _ _ _ h => h) (Or.inl ⟨by rfl, ?_⟩) hHeld ?_ ?_
        rotate_left; focus (rintro w' ⟨s0, s1, s2, s3, s4, s5, s6, s7, s8, s9⟩; go_simp; with_reducible rfl)
        rotate_left; focus (simp only [Act.put, List.setIfInBounds_toArray, List.set_cons_zero, List.set_cons_succ, i64_w, i32_w]; rfl)
        refine take_ (i := 11) (N := some 55) (v := ?_) (a' := ?_) backreachlaw11_SpanMeets.M37 rfl rfl (take_ofW HT_.out HW_.out (by kernel_rfl)) (fun _ _ _ h => h) (Or.inl ⟨by rfl, ?_⟩) hHeld ?_ ?_
        rotate_left; focus (rintro w' ⟨s0, s1, s2, s3, s4, s5, s6, s7, s8, s9⟩; go_simp; with_reducible rfl)
        rotate_left; focus (simp only [Act.put, List.setIfInBounds_toArray, List.set_cons_zero, List.set_cons_succ, i64_w, i32_w]; rfl)
        refine take_ (i := 12) (N := some 56) (v := ?_) (a' := ?_) backreachlaw11_SpanMeets.M39 rfl rfl (take_ofW HT_.out HW_.out (by kernel_rfl)) (fun _ _ _ h => h) (Or.inl ⟨by rfl, ?_⟩) hHeld ?_ ?_
        rotate_left; focus (rintro w' ⟨s0, s1, s2, s3, s4, s5, s6, s7, s8, s9⟩; go_simp; with_reducible rfl)
        rotate_left; focus (simp only [Act.put, List.setIfInBounds_toArray, List.set_cons_zero, List.set_cons_succ, i64_w, i32_w]; rfl)
        refine one_ (i := 13) (N := some 57) backreachlaw11_SpanMeets.M41 rfl rfl (one_of HT_.out (by kernel_rfl)) (by decide) (fun K hK => ?_)
        refine goes_ Try.func15 (by kernel_rfl) rfl #[.int .i64 a0, .agg #[.int .u64 a2_0, .int .u64 a2_1], .agg #[.int .u64 a1_0, .int .u64 a1_1]] (by rfl) rfl rfl (by (try simp only [List.map_toArray, List.map_cons, List.map_nil]); first | done | rfl | (simp only [List.length_drop, List.length_take]; rfl)) ?_
        with_reducible refine (span_Join.calls a0 a2_0 a2_1 a1_0 a1_1 t208 t209 _ A49.out).mono ?_
        rintro e w57 ⟨rfl, hb⟩
        refine ⟨_, rfl, ?_⟩
        have n0_ := Aside0.mk (bbq BK192 hb)
        have n1_ := Aside0.mk (bbq BK193 hb)
        have n2_ := Aside0.mk (bbq BK198 hb)
        have n3_ := Aside0.mk (bbq BK202 hb)
        have n4_ := Aside0.mk (bbq BK205 hb)
        have n5_ := Aside0.mk (below_step (hbq HB) hb)
        clear BK192 BK193 BK198 BK202 BK205 HB
        have BK192 := n0_
        have BK193 := n1_
        have BK198 := n2_
        have BK202 := n3_
        have BK205 := n4_
        have HB := n5_
        clear n0_ n1_ n2_ n3_ n4_ n5_
        (try clear hb)
        (try clear hb2)
        (try clear hk)
        (try clear hi)
        refine hK.out _ _ ⟨(blk_cell BK198.out 0).trans rfl, (blk_cell BK198.out 1).trans rfl, (blk_cell BK202.out 0).trans rfl, (blk_cell BK202.out 1).trans rfl, (blk_cell BK205.out 0).trans rfl, (blk_cell BK205.out 1).trans rfl, (blk_cell BK193.out 0).trans rfl, (blk_cell BK193.out 1).trans rfl, (blk_cell BK192.out 0).trans rfl, (blk_cell BK192.out 1).trans rfl⟩ (fun hHeld => ?_)
        clear hK K
        refine norm_ (a' := ?_) ?_ ?_
        rotate_left
        ·
         show Act.put _ (some 57) _ = _
         simp only [Act.put, List.setIfInBounds_toArray, List.set_cons_zero, List.set_cons_succ, i64_w, i32_w]
         rfl
        refine pq_ 14 58 ?_ backreachlaw11_SpanMeets.M43 HT_.out ?_ ?_ ?_ ?_
        rotate_left; focus (intro w'; go_simp; with_reducible rfl)
        rotate_left; focus (simp only [Act.put, List.setIfInBounds_toArray, List.set_cons_zero, List.set_cons_succ, i64_w, i32_w]; rfl)
        refine pq_ 15 59 ?_ backreachlaw11_SpanMeets.M45 HT_.out ?_ ?_ ?_ ?_
        rotate_left; focus (intro w'; go_simp; with_reducible rfl)
        rotate_left; focus (simp only [Act.put, List.setIfInBounds_toArray, List.set_cons_zero, List.set_cons_succ, i64_w, i32_w]; rfl)
        refine pq_ 16 60 ?_ backreachlaw11_SpanMeets.M47 HT_.out ?_ ?_ ?_ ?_
        rotate_left; focus (intro w'; go_simp; with_reducible rfl)
        rotate_left; focus (simp only [Act.put, List.setIfInBounds_toArray, List.set_cons_zero, List.set_cons_succ, i64_w, i32_w]; rfl)
        refine pq_ 17 61 ?_ backreachlaw11_SpanMeets.M49 HT_.out ?_ ?_ ?_ ?_
        rotate_left; focus (intro w'; go_simp; with_reducible rfl)
        rotate_left; focus (simp only [Act.put, List.setIfInBounds_toArray, List.set_cons_zero, List.set_cons_succ, i64_w, i32_w]; rfl)
        refine pq_ 18 62 ?_ backreachlaw11_SpanMeets.M51 HT_.out ?_ ?_ ?_ ?_
        rotate_left; focus (intro w'; go_simp; with_reducible rfl)
        rotate_left; focus (simp only [Act.put, List.setIfInBounds_toArray, List.set_cons_zero, List.set_cons_succ, i64_w, i32_w]; rfl)
        refine pq_ 19 63 ?_ backreachlaw11_SpanMeets.M53 HT_.out ?_ ?_ ?_ ?_
        rotate_left; focus (intro w'; go_simp; with_reducible rfl)
        rotate_left; focus (simp only [Act.put, List.setIfInBounds_toArray, List.set_cons_zero, List.set_cons_succ, i64_w, i32_w]; rfl)
        refine pq_ 20 64 ?_ backreachlaw11_SpanMeets.M55 HT_.out ?_ ?_ ?_ ?_
        rotate_left; focus (intro w'; go_simp; with_reducible rfl)
        rotate_left; focus (simp only [Act.put, List.setIfInBounds_toArray, List.set_cons_zero, List.set_cons_succ, i64_w, i32_w]; rfl)
        refine pq_ 21 65 ?_ backreachlaw11_SpanMeets.M57 HT_.out ?_ ?_ ?_ ?_
        rotate_left; focus (intro w'; go_simp; with_reducible rfl)
        rotate_left; focus (simp only [Act.put, List.setIfInBounds_toArray, List.set_cons_zero, List.set_cons_succ, i64_w, i32_w]; rfl)
        refine pq_ 22 66 ?_ backreachlaw11_SpanMeets.M59 HT_.out ?_ ?_ ?_ ?_
        rotate_left; focus (intro w'; go_simp; with_reducible rfl)
        rotate_left; focus (simp only [Act.put, List.setIfInBounds_toArray, List.set_cons_zero, List.set_cons_succ, i64_w, i32_w]; rfl)
        refine pq_ 23 67 ?_ backreachlaw11_SpanMeets.M61 HT_.out ?_ ?_ ?_ ?_
        rotate_left; focus (intro w'; go_simp; with_reducible rfl)
        rotate_left; focus (simp only [Act.put, List.setIfInBounds_toArray, List.set_cons_zero, List.set_cons_succ, i64_w, i32_w]; rfl)
        refine pq_ 25 69 ?_ backreachlaw11_SpanMeets.M62 HT_.out ?_ ?_ ?_ ?_
        rotate_left; focus (intro w'; go_simp; with_reducible rfl)
        rotate_left; focus (simp only [Act.put, List.setIfInBounds_toArray, List.set_cons_zero, List.set_cons_succ, i64_w, i32_w]; rfl)
        refine take_ (i := 24) (N := some 68) (v := ?_) (a' := ?_) backreachlaw11_SpanMeets.M66 rfl rfl (take_ofW HT_.out HW_.out (by kernel_rfl)) (fun _ _ _ h => h) (Or.inl ⟨by rfl, ?_⟩) hHeld ?_ ?_
        rotate_left; focus (rintro w' ⟨s0, s1, s2, s3, s4, s5, s6, s7, s8, s9⟩; go_simp; with_reducible rfl)
        rotate_left; focus (simp only [Act.put, List.setIfInBounds_toArray, List.set_cons_zero, List.set_cons_succ, i64_w, i32_w]; rfl)
        refine one_ (i := 26) (N := some 70) backreachlaw11_SpanMeets.M68 rfl rfl (one_of HT_.out (by kernel_rfl)) (by decide) (fun K hK => ?_)
        refine goes_ Try.func9 (by kernel_rfl) rfl #[.int .i64 a0, .agg #[.int .u64 t195, .int .u64 t196], .int .u64 a3] (by rfl) rfl rfl (by (try simp only [List.map_toArray, List.map_cons, List.map_nil]); first | done | rfl | (simp only [List.length_drop, List.length_take]; rfl)) ?_
        with_reducible refine (span_Has.calls a0 t195 t196 a3 t210 _ A55.out).mono ?_
        rintro e w58 ⟨rfl, hb⟩
        refine ⟨_, rfl, ?_⟩
        have n0_ := Aside0.mk (bbq BK192 hb)
        have n1_ := Aside0.mk (bbq BK193 hb)
        have n2_ := Aside0.mk (bbq BK198 hb)
        have n3_ := Aside0.mk (bbq BK202 hb)
        have n4_ := Aside0.mk (bbq BK205 hb)
        have n5_ := Aside0.mk (below_step (hbq HB) hb)
        clear BK192 BK193 BK198 BK202 BK205 HB
        have BK192 := n0_
        have BK193 := n1_
        have BK198 := n2_
        have BK202 := n3_
        have BK205 := n4_
        have HB := n5_
        clear n0_ n1_ n2_ n3_ n4_ n5_
        (try clear hb)
        (try clear hb2)
        (try clear hk)
        (try clear hi)
        refine hK.out _ _ ⟨(blk_cell BK198.out 0).trans rfl, (blk_cell BK198.out 1).trans rfl, (blk_cell BK202.out 0).trans rfl, (blk_cell BK202.out 1).trans rfl, (blk_cell BK205.out 0).trans rfl, (blk_cell BK205.out 1).trans rfl, (blk_cell BK193.out 0).trans rfl, (blk_cell BK193.out 1).trans rfl, (blk_cell BK192.out 0).trans rfl, (blk_cell BK192.out 1).trans rfl⟩ (fun hHeld => ?_)
        clear hK K
        refine norm_ (a' := ?_) ?_ ?_
        rotate_left
        ·
         show Act.put _ (some 70) _ = _
         simp only [Act.put, List.setIfInBounds_toArray, List.set_cons_zero, List.set_cons_succ, i64_w, i32_w]
         rfl
        refine pq_ 27 71 ?_ backreachlaw11_SpanMeets.M70 HT_.out ?_ ?_ ?_ ?_
        rotate_left; focus (intro w'; go_simp; with_reducible rfl)
        rotate_left; focus (simp only [Act.put, List.setIfInBounds_toArray, List.set_cons_zero, List.set_cons_succ, i64_w, i32_w]; rfl)
        refine pq_ 28 72 ?_ backreachlaw11_SpanMeets.M72 HT_.out ?_ ?_ ?_ ?_
        rotate_left; focus (intro w'; go_simp; with_reducible rfl)
        rotate_left; focus (simp only [Act.put, List.setIfInBounds_toArray, List.set_cons_zero, List.set_cons_succ, i64_w, i32_w]; rfl)
        refine pq_ 29 73 ?_ backreachlaw11_SpanMeets.M75 HT_.out ?_ ?_ ?_ ?_
        rotate_left; focus (intro w'; go_simp; with_reducible rfl)
        rotate_left; focus (simp only [Act.put, List.setIfInBounds_toArray, List.set_cons_zero, List.set_cons_succ, i64_w, i32_w]; rfl)
        refine done_ (done_of HT_.out (by kernel_rfl)) ?_
        try go_wp2
        go_meet
        case rel => exact ⟨_, ((t207 != t210)), (by first | rfl | (simp; done) | (simp [*]; done)), H', ⟨by first | omega | exact Nat.le_refl _⟩, ⟨by (with_reducible repeat (first | refine blk_drewN ?_ _ | refine blk_drew ?_ | refine blk_alloc ?_ _)); exact BK192.out⟩, ⟨by (with_reducible repeat (first | refine blk_drewN ?_ _ | refine blk_drew ?_ | refine blk_alloc ?_ _)); exact BK193.out⟩, ⟨by (with_reducible repeat (first | refine blk_drewN ?_ _ | refine blk_drew ?_ | refine blk_alloc ?_ _)); exact BK198.out⟩, ⟨by (with_reducible repeat (first | refine blk_drewN ?_ _ | refine blk_drew ?_ | refine blk_alloc ?_ _)); exact BK202.out⟩, ⟨by (with_reducible repeat (first | refine blk_drewN ?_ _ | refine blk_drew ?_ | refine blk_alloc ?_ _)); exact BK205.out⟩, ⟨by repeat (first | (with_reducible first | exact HB.out | apply below_alloc | apply pw_below_drewN | apply below_drew1 | refine below_set ?_ GE192.out | refine below_set ?_ GE193.out | refine below_set ?_ GE198.out | refine below_set ?_ GE202.out | refine below_set ?_ GE205.out) | exact HB.out)⟩⟩
       ·
        replace c54 := Bool.eq_false_iff.mpr c54
        subst c54
        have H1 : (backreachlaw11_SpanMeets.j0 k a0 a3 true t207 (t207 != false) a1_0 a1_1 a2_0 a2_1 t203 t204) = some r := by rw [if_neg (show ¬ (false = true) by decide)] at H; exact H
        clear H
        have H := H1
        clear H1
        have H' := Aside0.mk H
        clear H
        try go_wp2
        have n0_ := Aside0.mk (blk_drew BK192.out)
        have n1_ := Aside0.mk (blk_drew BK193.out)
        have n2_ := Aside0.mk (blk_drew BK198.out)
        have n3_ := Aside0.mk (blk_drew BK202.out)
        have n4_ := Aside0.mk (blk_drew BK205.out)
        have n5_ := Aside0.mk (below_drew1 HB.out)
        clear BK192 BK193 BK198 BK202 BK205 HB
        have BK192 := n0_
        have BK193 := n1_
        have BK198 := n2_
        have BK202 := n3_
        have BK205 := n4_
        have HB := n5_
        clear n0_ n1_ n2_ n3_ n4_ n5_
        refine start_ (n := 30) (S := fun w' => w'.cell? ⟨gb198, 0, none⟩ = some (.int .u64 t195) ∧ w'.cell? ⟨gb198, 1, none⟩ = some (.int .u64 t196) ∧ w'.cell? ⟨gb202, 0, none⟩ = some (.int .u64 t199) ∧ w'.cell? ⟨gb202, 1, none⟩ = some (.int .u64 t200) ∧ w'.cell? ⟨gb205, 0, none⟩ = some (.int .u64 t203) ∧ w'.cell? ⟨gb205, 1, none⟩ = some (.int .u64 t204) ∧ w'.cell? ⟨gb193, 0, none⟩ = some (.int .u64 a2_0) ∧ w'.cell? ⟨gb193, 1, none⟩ = some (.int .u64 a2_1) ∧ w'.cell? ⟨gb192, 0, none⟩ = some (.int .u64 a1_0) ∧ w'.cell? ⟨gb192, 1, none⟩ = some (.int .u64 a1_1)) (ds := []) backreachlaw11_SpanMeets.M1 (by kernel_rfl) rfl rfl ⟨(blk_cell BK198.out 0).trans rfl, (blk_cell BK198.out 1).trans rfl, (blk_cell BK202.out 0).trans rfl, (blk_cell BK202.out 1).trans rfl, (blk_cell BK205.out 0).trans rfl, (blk_cell BK205.out 1).trans rfl, (blk_cell BK193.out 0).trans rfl, (blk_cell BK193.out 1).trans rfl, (blk_cell BK192.out 0).trans rfl, (blk_cell BK192.out 1).trans rfl⟩ (fun hHeld => ?_); refine with_tabW backreachlaw11_SpanMeets.tab7 backreachlaw11_SpanMeets.bits7 (fun HT_ HW_ => ?_)
        generalize w44.drew = w59 at BK192 BK193 BK198 BK202 BK205 HB hHeld ⊢
        refine pq_ 0 44 ?_ backreachlaw11_SpanMeets.M4 HT_.out ?_ ?_ ?_ ?_
        rotate_left; focus (intro w'; go_simp; with_reducible rfl)
        rotate_left; focus (simp only [Act.put, List.setIfInBounds_toArray, List.set_cons_zero, List.set_cons_succ, i64_w, i32_w]; rfl)
        refine pq_ 1 45 ?_ backreachlaw11_SpanMeets.M10 HT_.out ?_ ?_ ?_ ?_
        rotate_left; focus (intro w'; go_simp; with_reducible rfl)
        rotate_left; focus (simp only [Act.put, List.setIfInBounds_toArray, List.set_cons_zero, List.set_cons_succ, i64_w, i32_w]; rfl)
        refine pq_ 2 46 ?_ backreachlaw11_SpanMeets.M12 HT_.out ?_ ?_ ?_ ?_
        rotate_left; focus (intro w'; go_simp; with_reducible rfl)
        rotate_left; focus (simp only [Act.put, List.setIfInBounds_toArray, List.set_cons_zero, List.set_cons_succ, i64_w, i32_w]; rfl)
        refine pq_ 3 47 ?_ backreachlaw11_SpanMeets.M16 HT_.out ?_ ?_ ?_ ?_
        rotate_left; focus (intro w'; go_simp; with_reducible rfl)
        rotate_left; focus (simp only [Act.put, List.setIfInBounds_toArray, List.set_cons_zero, List.set_cons_succ, i64_w, i32_w]; rfl)
        refine take_ (i := 4) (N := some 48) (v := ?_) (a' := ?_) backreachlaw11_SpanMeets.M18 rfl rfl (take_ofW HT_.out HW_.out (by kernel_rfl)) (fun _ _ _ h => h) (Or.inl ⟨by rfl, ?_⟩) hHeld ?_ ?_
        rotate_left; focus (rintro w' ⟨s0, s1, s2, s3, s4, s5, s6, s7, s8, s9⟩; go_simp; with_reducible rfl)
        rotate_left; focus (simp only [Act.put, List.setIfInBounds_toArray, List.set_cons_zero, List.set_cons_succ, i64_w, i32_w]; rfl)
        refine take_ (i := 5) (N := some 49) (v := ?_) (a' := ?_) backreachlaw11_SpanMeets.M20 rfl rfl (take_ofW HT_.out HW_.out (by kernel_rfl)) (fun _ _ _ h => h) (Or.inl ⟨by rfl, ?_⟩) hHeld ?_ ?_
        rotate_left; focus (rintro w' ⟨s0, s1, s2, s3, s4, s5, s6, s7, s8, s9⟩; go_simp; with_reducible rfl)
        rotate_left; focus (simp only [Act.put, List.setIfInBounds_toArray, List.set_cons_zero, List.set_cons_succ, i64_w, i32_w]; rfl)
        refine pq_ 6 50 ?_ backreachlaw11_SpanMeets.M22 HT_.out ?_ ?_ ?_ ?_
        rotate_left; focus (intro w'; go_simp; with_reducible rfl)
        rotate_left; focus (simp only [Act.put, List.setIfInBounds_toArray, List.set_cons_zero, List.set_cons_succ, i64_w, i32_w]; rfl)
        refine pq_ 7 51 ?_ backreachlaw11_SpanMeets.M25 HT_.out ?_ ?_ ?_ ?_
        rotate_left; focus (intro w'; go_simp; with_reducible rfl)
        rotate_left; focus (simp only [Act.put, List.setIfInBounds_toArray, List.set_cons_zero, List.set_cons_succ, i64_w, i32_w]; rfl)
        refine pq_ 8 52 ?_ backreachlaw11_SpanMeets.M29 HT_.out ?_ ?_ ?_ ?_
        rotate_left; focus (intro w'; go_simp; with_reducible rfl)
        rotate_left; focus (simp only [Act.put, List.setIfInBounds_toArray, List.set_cons_zero, List.set_cons_succ, i64_w, i32_w]; rfl)
        refine pq_ 10 54 ?_ backreachlaw11_SpanMeets.M30 HT_.out ?_ ?_ ?_ ?_
        rotate_left; focus (intro w'; go_simp; with_reducible rfl)
        rotate_left; focus (simp only [Act.put, List.setIfInBounds_toArray, List.set_cons_zero, List.set_cons_succ, i64_w, i32_w]; rfl)
        refine take_ (i := 9) (N := some 53) (v := ?_) (a' := ?_) backreachlaw11_SpanMeets.M35 rfl rfl (take_ofW HT_.out HW_.out (by kernel_rfl)) (fun _ _ _ h => h) (Or.inl ⟨by rfl, ?_⟩) hHeld ?_ ?_
        rotate_left; focus (rintro w' ⟨s0, s1, s2, s3, s4, s5, s6, s7, s8, s9⟩; go_simp; with_reducible rfl)
        rotate_left; focus (simp only [Act.put, List.setIfInBounds_toArray, List.set_cons_zero, List.set_cons_succ, i64_w, i32_w]; rfl)
        refine take_ (i := 11) (N := some 55) (v := ?_) (a' := ?_) backreachlaw11_SpanMeets.M37 rfl rfl (take_ofW HT_.out HW_.out (by kernel_rfl)) (fun _ _ _ h => h) (Or.inl ⟨by rfl, ?_⟩) hHeld ?_ ?_
        rotate_left; focus (rintro w' ⟨s0, s1, s2, s3, s4, s5, s6, s7, s8, s9⟩; go_simp; with_reducible rfl)
        rotate_left; focus (simp only [Act.put, List.setIfInBounds_toArray, List.set_cons_zero, List.set_cons_succ, i64_w, i32_w]; rfl)
        refine take_ (i := 12) (N := some 56) (v := ?_) (a' := ?_) backreachlaw11_SpanMeets.M39 rfl rfl (take_ofW HT_.out HW_.out (by kernel_rfl)) (fun _ _ _ h => h) (Or.inl ⟨by rfl, ?_⟩) hHeld ?_ ?_
        rotate_left; focus (rintro w' ⟨s0, s1, s2, s3, s4, s5, s6, s7, s8, s9⟩; go_simp; with_reducible rfl)
        rotate_left; focus (simp only [Act.put, List.setIfInBounds_toArray, List.set_cons_zero, List.set_cons_succ, i64_w, i32_w]; rfl)
        refine one_ (i := 13) (N := some 57) backreachlaw11_SpanMeets.M41 rfl rfl (one_of HT_.out (by kernel_rfl)) (by decide) (fun K hK => ?_)
        refine goes_ Try.func15 (by kernel_rfl) rfl #[.int .i64 a0, .agg #[.int .u64 a2_0, .int .u64 a2_1], .agg #[.int .u64 a1_0, .int .u64 a1_1]] (by rfl) rfl rfl (by (try simp only [List.map_toArray, List.map_cons, List.map_nil]); first | done | rfl | (simp only [List.length_drop, List.length_take]; rfl)) ?_
        with_reducible refine (span_Join.calls a0 a2_0 a2_1 a1_0 a1_1 t208 t209 _ A49.out).mono ?_
        rintro e w60 ⟨rfl, hb⟩
        refine ⟨_, rfl, ?_⟩
        have n0_ := Aside0.mk (bbq BK192 hb)
        have n1_ := Aside0.mk (bbq BK193 hb)
        have n2_ := Aside0.mk (bbq BK198 hb)
        have n3_ := Aside0.mk (bbq BK202 hb)
        have n4_ := Aside0.mk (bbq BK205 hb)
        have n5_ := Aside0.mk (below_step (hbq HB) hb)
        clear BK192 BK193 BK198 BK202 BK205 HB
        have BK192 := n0_
        have BK193 := n1_
        have BK198 := n2_
        have BK202 := n3_
        have BK205 := n4_
        have HB := n5_
        clear n0_ n1_ n2_ n3_ n4_ n5_
        (try clear hb)
        (try clear hb2)
        (try clear hk)
        (try clear hi)
        refine hK.out _ _ ⟨(blk_cell BK198.out 0).trans rfl, (blk_cell BK198.out 1).trans rfl, (blk_cell BK202.out 0).trans rfl, (blk_cell BK202.out 1).trans rfl, (blk_cell BK205.out 0).trans rfl, (blk_cell BK205.out 1).trans rfl, (blk_cell BK193.out 0).trans rfl, (blk_cell BK193.out 1).trans rfl, (blk_cell BK192.out 0).trans rfl, (blk_cell BK192.out 1).trans rfl⟩ (fun hHeld => ?_)
        clear hK K
        refine norm_ (a' := ?_) ?_ ?_
        rotate_left
        ·
         show Act.put _ (some 57) _ = _
         simp only [Act.put, List.setIfInBounds_toArray, List.set_cons_zero, List.set_cons_succ, i64_w, i32_w]
         rfl
        refine pq_ 14 58 ?_ backreachlaw11_SpanMeets.M43 HT_.out ?_ ?_ ?_ ?_
        rotate_left; focus (intro w'; go_simp; with_reducible rfl)
        rotate_left; focus (simp only [Act.put, List.setIfInBounds_toArray, List.set_cons_zero, List.set_cons_succ, i64_w, i32_w]; rfl)
        refine pq_ 15 59 ?_ backreachlaw11_SpanMeets.M45 HT_.out ?_ ?_ ?_ ?_
        rotate_left; focus (intro w'; go_simp; with_reducible rfl)
        rotate_left; focus (simp only [Act.put, List.setIfInBounds_toArray, List.set_cons_zero, List.set_cons_succ, i64_w, i32_w]; rfl)
        refine pq_ 16 60 ?_ backreachlaw11_SpanMeets.M47 HT_.out ?_ ?_ ?_ ?_
        rotate_left; focus (intro w'; go_simp; with_reducible rfl)
        rotate_left; focus (simp only [Act.put, List.setIfInBounds_toArray, List.set_cons_zero, List.set_cons_succ, i64_w, i32_w]; rfl)
        refine pq_ 17 61 ?_ backreachlaw11_SpanMeets.M49 HT_.out ?_ ?_ ?_ ?_
        rotate_left; focus (intro w'; go_simp; with_reducible rfl)
        rotate_left; focus (simp only [Act.put, List.setIfInBounds_toArray, List.set_cons_zero, List.set_cons_succ, i64_w, i32_w]; rfl)
        refine pq_ 18 62 ?_ backreachlaw11_SpanMeets.M51 HT_.out ?_ ?_ ?_ ?_
        rotate_left; focus (intro w'; go_simp; with_reducible rfl)
        rotate_left; focus (simp only [Act.put, List.setIfInBounds_toArray, List.set_cons_zero, List.set_cons_succ, i64_w, i32_w]; rfl)
        refine pq_ 19 63 ?_ backreachlaw11_SpanMeets.M53 HT_.out ?_ ?_ ?_ ?_
        rotate_left; focus (intro w'; go_simp; with_reducible rfl)
        rotate_left; focus (simp only [Act.put, List.setIfInBounds_toArray, List.set_cons_zero, List.set_cons_succ, i64_w, i32_w]; rfl)
        refine pq_ 20 64 ?_ backreachlaw11_SpanMeets.M55 HT_.out ?_ ?_ ?_ ?_
        rotate_left; focus (intro w'; go_simp; with_reducible rfl)
        rotate_left; focus (simp only [Act.put, List.setIfInBounds_toArray, List.set_cons_zero, List.set_cons_succ, i64_w, i32_w]; rfl)
        refine pq_ 21 65 ?_ backreachlaw11_SpanMeets.M57 HT_.out ?_ ?_ ?_ ?_
        rotate_left; focus (intro w'; go_simp; with_reducible rfl)
        rotate_left; focus (simp only [Act.put, List.setIfInBounds_toArray, List.set_cons_zero, List.set_cons_succ, i64_w, i32_w]; rfl)
        refine pq_ 22 66 ?_ backreachlaw11_SpanMeets.M59 HT_.out ?_ ?_ ?_ ?_
        rotate_left; focus (intro w'; go_simp; with_reducible rfl)
        rotate_left; focus (simp only [Act.put, List.setIfInBounds_toArray, List.set_cons_zero, List.set_cons_succ, i64_w, i32_w]; rfl)
        refine pure_ (i := 23) (N := some 67) (v := undef) (a' := ?_) backreachlaw11_SpanMeets.M61 rfl rfl (any_of HT_.out (by kernel_rfl)) (fun _ _ _ h => h) (Or.inr ⟨by rfl, rfl⟩) ?_ ?_
        rotate_left; focus (simp only [Act.put, List.setIfInBounds_toArray, List.set_cons_zero, List.set_cons_succ, i64_w, i32_w]; rfl)
        refine pure_ (i := 24) (N := some 68) (v := undef) (a' := ?_) backreachlaw11_SpanMeets.M64 rfl rfl (any_of HT_.out (by kernel_rfl)) (fun _ _ _ h => h) (Or.inr ⟨by rfl, rfl⟩) ?_ ?_
        rotate_left; focus (simp only [Act.put, List.setIfInBounds_toArray, List.set_cons_zero, List.set_cons_succ, i64_w, i32_w]; rfl)
        refine pure_ (i := 25) (N := some 69) (v := undef) (a' := ?_) backreachlaw11_SpanMeets.M66 rfl rfl (any_of HT_.out (by kernel_rfl)) (fun _ _ _ h => h) (Or.inr ⟨by rfl, rfl⟩) ?_ ?_
        rotate_left; focus (simp only [Act.put, List.setIfInBounds_toArray, List.set_cons_zero, List.set_cons_succ, i64_w, i32_w]; rfl)
        refine pure_ (i := 26) (N := some 70) (v := undef) (a' := ?_) backreachlaw11_SpanMeets.M68 rfl rfl (any_of HT_.out (by kernel_rfl)) (fun _ _ _ h => h) (Or.inr ⟨by rfl, rfl⟩) ?_ ?_
        rotate_left; focus (simp only [Act.put, List.setIfInBounds_toArray, List.set_cons_zero, List.set_cons_succ, i64_w, i32_w]; rfl)
        refine pq_ 27 71 ?_ backreachlaw11_SpanMeets.M70 HT_.out ?_ ?_ ?_ ?_
        rotate_left; focus (intro w'; go_simp; with_reducible rfl)
        rotate_left; focus (simp only [Act.put, List.setIfInBounds_toArray, List.set_cons_zero, List.set_cons_succ, i64_w, i32_w]; rfl)
        refine pq_ 28 72 ?_ backreachlaw11_SpanMeets.M72 HT_.out ?_ ?_ ?_ ?_
        rotate_left; focus (intro w'; go_simp; with_reducible rfl)
        rotate_left; focus (simp only [Act.put, List.setIfInBounds_toArray, List.set_cons_zero, List.set_cons_succ, i64_w, i32_w]; rfl)
        refine pq_ 29 73 ?_ backreachlaw11_SpanMeets.M75 HT_.out ?_ ?_ ?_ ?_
        rotate_left; focus (intro w'; go_simp; with_reducible rfl)
        rotate_left; focus (simp only [Act.put, List.setIfInBounds_toArray, List.set_cons_zero, List.set_cons_succ, i64_w, i32_w]; rfl)
        refine done_ (done_of HT_.out (by kernel_rfl)) ?_
        try go_wp2
        go_meet
        case rel => exact ⟨_, ((t207 != false)), (by first | rfl | (simp; done) | (simp [*]; done)), H', ⟨by first | omega | exact Nat.le_refl _⟩, ⟨by (with_reducible repeat (first | refine blk_drewN ?_ _ | refine blk_drew ?_ | refine blk_alloc ?_ _)); exact BK192.out⟩, ⟨by (with_reducible repeat (first | refine blk_drewN ?_ _ | refine blk_drew ?_ | refine blk_alloc ?_ _)); exact BK193.out⟩, ⟨by (with_reducible repeat (first | refine blk_drewN ?_ _ | refine blk_drew ?_ | refine blk_alloc ?_ _)); exact BK198.out⟩, ⟨by (with_reducible repeat (first | refine blk_drewN ?_ _ | refine blk_drew ?_ | refine blk_alloc ?_ _)); exact BK202.out⟩, ⟨by (with_reducible repeat (first | refine blk_drewN ?_ _ | refine blk_drew ?_ | refine blk_alloc ?_ _)); exact BK205.out⟩, ⟨by repeat (first | (with_reducible first | exact HB.out | apply below_alloc | apply pw_below_drewN | apply below_drew1 | refine below_set ?_ GE192.out | refine below_set ?_ GE193.out | refine below_set ?_ GE198.out | refine below_set ?_ GE202.out | refine below_set ?_ GE205.out) | exact HB.out)⟩⟩
      ·
       replace c53 := Bool.eq_false_iff.mpr c53
       subst c53
       have H1 : (if t197 = true then ((span_Has.f a0 t195 t196 a3).bind fun t211 => (backreachlaw11_SpanMeets.j0 k a0 a3 false t207 (false != t211) a1_0 a1_1 a2_0 a2_1 t203 t204)) else (backreachlaw11_SpanMeets.j0 k a0 a3 false t207 (false != false) a1_0 a1_1 a2_0 a2_1 t203 t204)) = some r := by rw [if_neg (show ¬ (false = true) by decide)] at H; exact H
       clear H
       have H := H1
       clear H1
       by_cases c61 : t197 = true
       ·
        subst c61
        have H1 : ((span_Has.f a0 t195 t196 a3).bind fun t211 => (backreachlaw11_SpanMeets.j0 k a0 a3 false t207 (false != t211) a1_0 a1_1 a2_0 a2_1 t203 t204)) = some r := by rw [if_pos rfl] at H; exact H
        clear H
        have H := H1
        clear H1
        replace H := Option.bind_eq_some_iff.mp H
        obtain ⟨t211, A620, H⟩ := H
        replace H : (backreachlaw11_SpanMeets.j0 k a0 a3 false t207 (false != t211) a1_0 a1_1 a2_0 a2_1 t203 t204) = some r := H
        have A62 := Aside0.mk A620
        clear A620
        have H' := Aside0.mk H
        clear H
        try go_wp2
        have n0_ := Aside0.mk (blk_drew BK192.out)
        have n1_ := Aside0.mk (blk_drew BK193.out)
        have n2_ := Aside0.mk (blk_drew BK198.out)
        have n3_ := Aside0.mk (blk_drew BK202.out)
        have n4_ := Aside0.mk (blk_drew BK205.out)
        have n5_ := Aside0.mk (below_drew1 HB.out)
        clear BK192 BK193 BK198 BK202 BK205 HB
        have BK192 := n0_
        have BK193 := n1_
        have BK198 := n2_
        have BK202 := n3_
        have BK205 := n4_
        have HB := n5_
        clear n0_ n1_ n2_ n3_ n4_ n5_
        refine start_ (n := 30) (S := fun w' => w'.cell? ⟨gb198, 0, none⟩ = some (.int .u64 t195) ∧ w'.cell? ⟨gb198, 1, none⟩ = some (.int .u64 t196) ∧ w'.cell? ⟨gb202, 0, none⟩ = some (.int .u64 t199) ∧ w'.cell? ⟨gb202, 1, none⟩ = some (.int .u64 t200) ∧ w'.cell? ⟨gb205, 0, none⟩ = some (.int .u64 t203) ∧ w'.cell? ⟨gb205, 1, none⟩ = some (.int .u64 t204) ∧ w'.cell? ⟨gb193, 0, none⟩ = some (.int .u64 a2_0) ∧ w'.cell? ⟨gb193, 1, none⟩ = some (.int .u64 a2_1) ∧ w'.cell? ⟨gb192, 0, none⟩ = some (.int .u64 a1_0) ∧ w'.cell? ⟨gb192, 1, none⟩ = some (.int .u64 a1_1)) (ds := []) backreachlaw11_SpanMeets.M1 (by kernel_rfl) rfl rfl ⟨(blk_cell BK198.out 0).trans rfl, (blk_cell BK198.out 1).trans rfl, (blk_cell BK202.out 0).trans rfl, (blk_cell BK202.out 1).trans rfl, (blk_cell BK205.out 0).trans rfl, (blk_cell BK205.out 1).trans rfl, (blk_cell BK193.out 0).trans rfl, (blk_cell BK193.out 1).trans rfl, (blk_cell BK192.out 0).trans rfl, (blk_cell BK192.out 1).trans rfl⟩ (fun hHeld => ?_); refine with_tabW backreachlaw11_SpanMeets.tab7 backreachlaw11_SpanMeets.bits7 (fun HT_ HW_ => ?_)
        generalize w44.drew = w63 at BK192 BK193 BK198 BK202 BK205 HB hHeld ⊢
        refine pq_ 0 44 ?_ backreachlaw11_SpanMeets.M4 HT_.out ?_ ?_ ?_ ?_
        rotate_left; focus (intro w'; go_simp; with_reducible rfl)
        rotate_left; focus (simp only [Act.put, List.setIfInBounds_toArray, List.set_cons_zero, List.set_cons_succ, i64_w, i32_w]; rfl)
        refine pq_ 1 45 ?_ backreachlaw11_SpanMeets.M10 HT_.out ?_ ?_ ?_ ?_
        rotate_left; focus (intro w'; go_simp; with_reducible rfl)
        rotate_left; focus (simp only [Act.put, List.setIfInBounds_toArray, List.set_cons_zero, List.set_cons_succ, i64_w, i32_w]; rfl)
        refine pq_ 2 46 ?_ backreachlaw11_SpanMeets.M12 HT_.out ?_ ?_ ?_ ?_
        rotate_left; focus (intro w'; go_simp; with_reducible rfl)
        rotate_left; focus (simp only [Act.put, List.setIfInBounds_toArray, List.set_cons_zero, List.set_cons_succ, i64_w, i32_w]; rfl)
        refine pq_ 3 47 ?_ backreachlaw11_SpanMeets.M16 HT_.out ?_ ?_ ?_ ?_
        rotate_left; focus (intro w'; go_simp; with_reducible rfl)
        rotate_left; focus (simp only [Act.put, List.setIfInBounds_toArray, List.set_cons_zero, List.set_cons_succ, i64_w, i32_w]; rfl)
        refine take_ (i := 4) (N := some 48) (v := ?_) (a' := ?_) backreachlaw11_SpanMeets.M18 rfl rfl (take_ofW HT_.out HW_.out (by kernel_rfl)) (fun _ _ _ h => h) (Or.inl ⟨by rfl, ?_⟩) hHeld ?_ ?_
        rotate_left; focus (rintro w' ⟨s0, s1, s2, s3, s4, s5, s6, s7, s8, s9⟩; go_simp; with_reducible rfl)
        rotate_left; focus (simp only [Act.put, List.setIfInBounds_toArray, List.set_cons_zero, List.set_cons_succ, i64_w, i32_w]; rfl)
        refine take_ (i := 5) (N := some 49) (v := ?_) (a' := ?_) backreachlaw11_SpanMeets.M20 rfl rfl (take_ofW HT_.out HW_.out (by kernel_rfl)) (fun _ _ _ h => h) (Or.inl ⟨by rfl, ?_⟩) hHeld ?_ ?_
        rotate_left; focus (rintro w' ⟨s0, s1, s2, s3, s4, s5, s6, s7, s8, s9⟩; go_simp; with_reducible rfl)
        rotate_left; focus (simp only [Act.put, List.setIfInBounds_toArray, List.set_cons_zero, List.set_cons_succ, i64_w, i32_w]; rfl)
        refine pq_ 6 50 ?_ backreachlaw11_SpanMeets.M22 HT_.out ?_ ?_ ?_ ?_
        rotate_left; focus (intro w'; go_simp; with_reducible rfl)
        rotate_left; focus (simp only [Act.put, List.setIfInBounds_toArray, List.set_cons_zero, List.set_cons_succ, i64_w, i32_w]; rfl)
        refine pq_ 7 51 ?_ backreachlaw11_SpanMeets.M25 HT_.out ?_ ?_ ?_ ?_
        rotate_left; focus (intro w'; go_simp; with_reducible rfl)
        rotate_left; focus (simp only [Act.put, List.setIfInBounds_toArray, List.set_cons_zero, List.set_cons_succ, i64_w, i32_w]; rfl)
        refine pq_ 8 52 ?_ backreachlaw11_SpanMeets.M29 HT_.out ?_ ?_ ?_ ?_
        rotate_left; focus (intro w'; go_simp; with_reducible rfl)
        rotate_left; focus (simp only [Act.put, List.setIfInBounds_toArray, List.set_cons_zero, List.set_cons_succ, i64_w, i32_w]; rfl)
        refine pq_ 10 54 ?_ backreachlaw11_SpanMeets.M30 HT_.out ?_ ?_ ?_ ?_
        rotate_left; focus (intro w'; go_simp; with_reducible rfl)
        rotate_left; focus (simp only [Act.put, List.setIfInBounds_toArray, List.set_cons_zero, List.set_cons_succ, i64_w, i32_w]; rfl)
        refine take_ (i := 9) (N := some 53) (v := ?_) (a' := ?_) backreachlaw11_SpanMeets.M35 rfl rfl (take_ofW HT_.out HW_.out (by kernel_rfl)) (fun _ _ _ h => h) (Or.inl ⟨by rfl, ?_⟩) hHeld ?_ ?_
        rotate_left; focus (rintro w' ⟨s0, s1, s2, s3, s4, s5, s6, s7, s8, s9⟩; go_simp; with_reducible rfl)
        rotate_left; focus (simp only [Act.put, List.setIfInBounds_toArray, List.set_cons_zero, List.set_cons_succ, i64_w, i32_w]; rfl)
        refine take_ (i := 11) (N := some 55) (v := ?_) (a' := ?_) backreachlaw11_SpanMeets.M37 rfl rfl (take_ofW HT_.out HW_.out (by kernel_rfl)) (fun _ _ _ h => h) (Or.inl ⟨by rfl, ?_⟩) hHeld ?_ ?_
        rotate_left; focus (rintro w' ⟨s0, s1, s2, s3, s4, s5, s6, s7, s8, s9⟩; go_simp; with_reducible rfl)
        rotate_left; focus (simp only [Act.put, List.setIfInBounds_toArray, List.set_cons_zero, List.set_cons_succ, i64_w, i32_w]; rfl)
        refine take_ (i := 12) (N := some 56) (v := ?_) (a' := ?_) backreachlaw11_SpanMeets.M39 rfl rfl (take_ofW HT_.out HW_.out (by kernel_rfl)) (fun _ _ _ h => h) (Or.inl ⟨by rfl, ?_⟩) hHeld ?_ ?_
        rotate_left; focus (rintro w' ⟨s0, s1, s2, s3, s4, s5, s6, s7, s8, s9⟩; go_simp; with_reducible rfl)
        rotate_left; focus (simp only [Act.put, List.setIfInBounds_toArray, List.set_cons_zero, List.set_cons_succ, i64_w, i32_w]; rfl)
        refine one_ (i := 13) (N := some 57) backreachlaw11_SpanMeets.M41 rfl rfl (one_of HT_.out (by kernel_rfl)) (by decide) (fun K hK => ?_)
        refine goes_ Try.func15 (by kernel_rfl) rfl #[.int .i64 a0, .agg #[.int .u64 a2_0, .int .u64 a2_1], .agg #[.int .u64 a1_0, .int .u64 a1_1]] (by rfl) rfl rfl (by (try simp only [List.map_toArray, List.map_cons, List.map_nil]); first | done | rfl | (simp only [List.length_drop, List.length_take]; rfl)) ?_
        with_reducible refine (span_Join.calls a0 a2_0 a2_1 a1_0 a1_1 t208 t209 _ A49.out).mono ?_
        rintro e w64 ⟨rfl, hb⟩
        refine ⟨_, rfl, ?_⟩
        have n0_ := Aside0.mk (bbq BK192 hb)
        have n1_ := Aside0.mk (bbq BK193 hb)
        have n2_ := Aside0.mk (bbq BK198 hb)
        have n3_ := Aside0.mk (bbq BK202 hb)
        have n4_ := Aside0.mk (bbq BK205 hb)
        have n5_ := Aside0.mk (below_step (hbq HB) hb)
        clear BK192 BK193 BK198 BK202 BK205 HB
        have BK192 := n0_
        have BK193 := n1_
        have BK198 := n2_
        have BK202 := n3_
        have BK205 := n4_
        have HB := n5_
        clear n0_ n1_ n2_ n3_ n4_ n5_
        (try clear hb)
        (try clear hb2)
        (try clear hk)
        (try clear hi)
        refine hK.out _ _ ⟨(blk_cell BK198.out 0).trans rfl, (blk_cell BK198.out 1).trans rfl, (blk_cell BK202.out 0).trans rfl, (blk_cell BK202.out 1).trans rfl, (blk_cell BK205.out 0).trans rfl, (blk_cell BK205.out 1).trans rfl, (blk_cell BK193.out 0).trans rfl, (blk_cell BK193.out 1).trans rfl, (blk_cell BK192.out 0).trans rfl, (blk_cell BK192.out 1).trans rfl⟩ (fun hHeld => ?_)
        clear hK K
        refine norm_ (a' := ?_) ?_ ?_
        rotate_left
        ·
         show Act.put _ (some 57) _ = _
         simp only [Act.put, List.setIfInBounds_toArray, List.set_cons_zero, List.set_cons_succ, i64_w, i32_w]
         rfl
        refine pq_ 14 58 ?_ backreachlaw11_SpanMeets.M43 HT_.out ?_ ?_ ?_ ?_
        rotate_left; focus (intro w'; go_simp; with_reducible rfl)
        rotate_left; focus (simp only [Act.put, List.setIfInBounds_toArray, List.set_cons_zero, List.set_cons_succ, i64_w, i32_w]; rfl)
        refine pq_ 15 59 ?_ backreachlaw11_SpanMeets.M45 HT_.out ?_ ?_ ?_ ?_
        rotate_left; focus (intro w'; go_simp; with_reducible rfl)
        rotate_left; focus (simp only [Act.put, List.setIfInBounds_toArray, List.set_cons_zero, List.set_cons_succ, i64_w, i32_w]; rfl)
        refine pq_ 16 60 ?_ backreachlaw11_SpanMeets.M47 HT_.out ?_ ?_ ?_ ?_
        rotate_left; focus (intro w'; go_simp; with_reducible rfl)
        rotate_left; focus (simp only [Act.put, List.setIfInBounds_toArray, List.set_cons_zero, List.set_cons_succ, i64_w, i32_w]; rfl)
        refine pq_ 17 61 ?_ backreachlaw11_SpanMeets.M49 HT_.out ?_ ?_ ?_ ?_
        rotate_left; focus (intro w'; go_simp; with_reducible rfl)
        rotate_left; focus (simp only [Act.put, List.setIfInBounds_toArray, List.set_cons_zero, List.set_cons_succ, i64_w, i32_w]; rfl)
        refine pq_ 18 62 ?_ backreachlaw11_SpanMeets.M51 HT_.out ?_ ?_ ?_ ?_
        rotate_left; focus (intro w'; go_simp; with_reducible rfl)
        rotate_left; focus (simp only [Act.put, List.setIfInBounds_toArray, List.set_cons_zero, List.set_cons_succ, i64_w, i32_w]; rfl)
        refine pure_ (i := 19) (N := some 63) (v := undef) (a' := ?_) backreachlaw11_SpanMeets.M53 rfl rfl (any_of HT_.out (by kernel_rfl)) (fun _ _ _ h => h) (Or.inr ⟨by rfl, rfl⟩) ?_ ?_
        rotate_left; focus (simp only [Act.put, List.setIfInBounds_toArray, List.set_cons_zero, List.set_cons_succ, i64_w, i32_w]; rfl)
        refine pq_ 20 64 ?_ backreachlaw11_SpanMeets.M55 HT_.out ?_ ?_ ?_ ?_
        rotate_left; focus (intro w'; go_simp; with_reducible rfl)
        rotate_left; focus (simp only [Act.put, List.setIfInBounds_toArray, List.set_cons_zero, List.set_cons_succ, i64_w, i32_w]; rfl)
        refine pq_ 21 65 ?_ backreachlaw11_SpanMeets.M57 HT_.out ?_ ?_ ?_ ?_
        rotate_left; focus (intro w'; go_simp; with_reducible rfl)
        rotate_left; focus (simp only [Act.put, List.setIfInBounds_toArray, List.set_cons_zero, List.set_cons_succ, i64_w, i32_w]; rfl)
        refine pq_ 22 66 ?_ backreachlaw11_SpanMeets.M59 HT_.out ?_ ?_ ?_ ?_
        rotate_left; focus (intro w'; go_simp; with_reducible rfl)
        rotate_left; focus (simp only [Act.put, List.setIfInBounds_toArray, List.set_cons_zero, List.set_cons_succ, i64_w, i32_w]; rfl)
        refine pq_ 23 67 ?_ backreachlaw11_SpanMeets.M61 HT_.out ?_ ?_ ?_ ?_
        rotate_left; focus (intro w'; go_simp; with_reducible rfl)
        rotate_left; focus (simp only [Act.put, List.setIfInBounds_toArray, List.set_cons_zero, List.set_cons_succ, i64_w, i32_w]; rfl)
        refine pq_ 25 69 ?_ backreachlaw11_SpanMeets.M62 HT_.out ?_ ?_ ?_ ?_
        rotate_left; focus (intro w'; go_simp; with_reducible rfl)
        rotate_left; focus (simp only [Act.put, List.setIfInBounds_toArray, List.set_cons_zero, List.set_cons_succ, i64_w, i32_w]; rfl)
        refine take_ (i := 24) (N := some 68) (v := ?_) (a' := ?_) backreachlaw11_SpanMeets.M66 rfl rfl (take_ofW HT_.out HW_.out (by kernel_rfl)) (fun _ _ _ h => h) (Or.inl ⟨by rfl, ?_⟩) hHeld ?_ ?_
        rotate_left; focus (rintro w' ⟨s0, s1, s2, s3, s4, s5, s6, s7, s8, s9⟩; go_simp; with_reducible rfl)
        rotate_left; focus (simp only [Act.put, List.setIfInBounds_toArray, List.set_cons_zero, List.set_cons_succ, i64_w, i32_w]; rfl)
        refine one_ (i := 26) (N := some 70) backreachlaw11_SpanMeets.M68 rfl rfl (one_of HT_.out (by kernel_rfl)) (by decide) (fun K hK => ?_)
        refine goes_ Try.func9 (by kernel_rfl) rfl #[.int .i64 a0, .agg #[.int .u64 t195, .int .u64 t196], .int .u64 a3] (by rfl) rfl rfl (by (try simp only [List.map_toArray, List.map_cons, List.map_nil]); first | done | rfl | (simp only [List.length_drop, List.length_take]; rfl)) ?_
        with_reducible refine (span_Has.calls a0 t195 t196 a3 t211 _ A62.out).mono ?_
        rintro e w65 ⟨rfl, hb⟩
        refine ⟨_, rfl, ?_⟩
        have n0_ := Aside0.mk (bbq BK192 hb)
        have n1_ := Aside0.mk (bbq BK193 hb)
        have n2_ := Aside0.mk (bbq BK198 hb)
        have n3_ := Aside0.mk (bbq BK202 hb)
        have n4_ := Aside0.mk (bbq BK205 hb)
        have n5_ := Aside0.mk (below_step (hbq HB) hb)
        clear BK192 BK193 BK198 BK202 BK205 HB
        have BK192 := n0_
        have BK193 := n1_
        have BK198 := n2_
        have BK202 := n3_
        have BK205 := n4_
        have HB := n5_
        clear n0_ n1_ n2_ n3_ n4_ n5_
        (try clear hb)
        (try clear hb2)
        (try clear hk)
        (try clear hi)
        refine hK.out _ _ ⟨(blk_cell BK198.out 0).trans rfl, (blk_cell BK198.out 1).trans rfl, (blk_cell BK202.out 0).trans rfl, (blk_cell BK202.out 1).trans rfl, (blk_cell BK205.out 0).trans rfl, (blk_cell BK205.out 1).trans rfl, (blk_cell BK193.out 0).trans rfl, (blk_cell BK193.out 1).trans rfl, (blk_cell BK192.out 0).trans rfl, (blk_cell BK192.out 1).trans rfl⟩ (fun hHeld => ?_)
        clear hK K
        refine norm_ (a' := ?_) ?_ ?_
        rotate_left
        ·
         show Act.put _ (some 70) _ = _
         simp only [Act.put, List.setIfInBounds_toArray, List.set_cons_zero, List.set_cons_succ, i64_w, i32_w]
         rfl
        refine pq_ 27 71 ?_ backreachlaw11_SpanMeets.M70 HT_.out ?_ ?_ ?_ ?_
        rotate_left; focus (intro w'; go_simp; with_reducible rfl)
        rotate_left; focus (simp only [Act.put, List.setIfInBounds_toArray, List.set_cons_zero, List.set_cons_succ, i64_w, i32_w]; rfl)
        refine pq_ 28 72 ?_ backreachlaw11_SpanMeets.M72 HT_.out ?_ ?_ ?_ ?_
        rotate_left; focus (intro w'; go_simp; with_reducible rfl)
        rotate_left; focus (simp only [Act.put, List.setIfInBounds_toArray, List.set_cons_zero, List.set_cons_succ, i64_w, i32_w]; rfl)
        refine pq_ 29 73 ?_ backreachlaw11_SpanMeets.M75 HT_.out ?_ ?_ ?_ ?_
        rotate_left; focus (intro w'; go_simp; with_reducible rfl)
        rotate_left; focus (simp only [Act.put, List.setIfInBounds_toArray, List.set_cons_zero, List.set_cons_succ, i64_w, i32_w]; rfl)
        refine done_ (done_of HT_.out (by kernel_rfl)) ?_
        try go_wp2
        go_meet
        case rel => exact ⟨_, ((false != t211)), (by first | rfl | (simp; done) | (simp [*]; done)), H', ⟨by first | omega | exact Nat.le_refl _⟩, ⟨by (with_reducible repeat (first | refine blk_drewN ?_ _ | refine blk_drew ?_ | refine blk_alloc ?_ _)); exact BK192.out⟩, ⟨by (with_reducible repeat (first | refine blk_drewN ?_ _ | refine blk_drew ?_ | refine blk_alloc ?_ _)); exact BK193.out⟩, ⟨by (with_reducible repeat (first | refine blk_drewN ?_ _ | refine blk_drew ?_ | refine blk_alloc ?_ _)); exact BK198.out⟩, ⟨by (with_reducible repeat (first | refine blk_drewN ?_ _ | refine blk_drew ?_ | refine blk_alloc ?_ _)); exact BK202.out⟩, ⟨by (with_reducible repeat (first | refine blk_drewN ?_ _ | refine blk_drew ?_ | refine blk_alloc ?_ _)); exact BK205.out⟩, ⟨by repeat (first | (with_reducible first | exact HB.out | apply below_alloc | apply pw_below_drewN | apply below_drew1 | refine below_set ?_ GE192.out | refine below_set ?_ GE193.out | refine below_set ?_ GE198.out | refine below_set ?_ GE202.out | refine below_set ?_ GE205.out) | exact HB.out)⟩⟩
       ·
        replace c61 := Bool.eq_false_iff.mpr c61
        subst c61
        have H1 : (backreachlaw11_SpanMeets.j0 k a0 a3 false t207 (false != false) a1_0 a1_1 a2_0 a2_1 t203 t204) = some r := by rw [if_neg (show ¬ (false = true) by decide)] at H; exact H
        clear H
        have H := H1
        clear H1
        have H' := Aside0.mk H
        clear H
        try go_wp2
        have n0_ := Aside0.mk (blk_drew BK192.out)
        have n1_ := Aside0.mk (blk_drew BK193.out)
        have n2_ := Aside0.mk (blk_drew BK198.out)
        have n3_ := Aside0.mk (blk_drew BK202.out)
        have n4_ := Aside0.mk (blk_drew BK205.out)
        have n5_ := Aside0.mk (below_drew1 HB.out)
        clear BK192 BK193 BK198 BK202 BK205 HB
        have BK192 := n0_
        have BK193 := n1_
        have BK198 := n2_
        have BK202 := n3_
        have BK205 := n4_
        have HB := n5_
        clear n0_ n1_ n2_ n3_ n4_ n5_
        refine start_ (n := 30) (S := fun w' => w'.cell? ⟨gb198, 0, none⟩ = some (.int .u64 t195) ∧ w'.cell? ⟨gb198, 1, none⟩ = some (.int .u64 t196) ∧ w'.cell? ⟨gb202, 0, none⟩ = some (.int .u64 t199) ∧ w'.cell? ⟨gb202, 1, none⟩ = some (.int .u64 t200) ∧ w'.cell? ⟨gb205, 0, none⟩ = some (.int .u64 t203) ∧ w'.cell? ⟨gb205, 1, none⟩ = some (.int .u64 t204) ∧ w'.cell? ⟨gb193, 0, none⟩ = some (.int .u64 a2_0) ∧ w'.cell? ⟨gb193, 1, none⟩ = some (.int .u64 a2_1) ∧ w'.cell? ⟨gb192, 0, none⟩ = some (.int .u64 a1_0) ∧ w'.cell? ⟨gb192, 1, none⟩ = some (.int .u64 a1_1)) (ds := []) backreachlaw11_SpanMeets.M1 (by kernel_rfl) rfl rfl ⟨(blk_cell BK198.out 0).trans rfl, (blk_cell BK198.out 1).trans rfl, (blk_cell BK202.out 0).trans rfl, (blk_cell BK202.out 1).trans rfl, (blk_cell BK205.out 0).trans rfl, (blk_cell BK205.out 1).trans rfl, (blk_cell BK193.out 0).trans rfl, (blk_cell BK193.out 1).trans rfl, (blk_cell BK192.out 0).trans rfl, (blk_cell BK192.out 1).trans rfl⟩ (fun hHeld => ?_); refine with_tabW backreachlaw11_SpanMeets.tab7 backreachlaw11_SpanMeets.bits7 (fun HT_ HW_ => ?_)
        generalize w44.drew = w66 at BK192 BK193 BK198 BK202 BK205 HB hHeld ⊢
        refine pq_ 0 44 ?_ backreachlaw11_SpanMeets.M4 HT_.out ?_ ?_ ?_ ?_
        rotate_left; focus (intro w'; go_simp; with_reducible rfl)
        rotate_left; focus (simp only [Act.put, List.setIfInBounds_toArray, List.set_cons_zero, List.set_cons_succ, i64_w, i32_w]; rfl)
        refine pq_ 1 45 ?_ backreachlaw11_SpanMeets.M10 HT_.out ?_ ?_ ?_ ?_
        rotate_left; focus (intro w'; go_simp; with_reducible rfl)
        rotate_left; focus (simp only [Act.put, List.setIfInBounds_toArray, List.set_cons_zero, List.set_cons_succ, i64_w, i32_w]; rfl)
        refine pq_ 2 46 ?_ backreachlaw11_SpanMeets.M12 HT_.out ?_ ?_ ?_ ?_
        rotate_left; focus (intro w'; go_simp; with_reducible rfl)
        rotate_left; focus (simp only [Act.put, List.setIfInBounds_toArray, List.set_cons_zero, List.set_cons_succ, i64_w, i32_w]; rfl)
        refine pq_ 3 47 ?_ backreachlaw11_SpanMeets.M16 HT_.out ?_ ?_ ?_ ?_
        rotate_left; focus (intro w'; go_simp; with_reducible rfl)
        rotate_left; focus (simp only [Act.put, List.setIfInBounds_toArray, List.set_cons_zero, List.set_cons_succ, i64_w, i32_w]; rfl)
        refine take_ (i := 4) (N := some 48) (v := ?_) (a' := ?_) backreachlaw11_SpanMeets.M18 rfl rfl (take_ofW HT_.out HW_.out (by kernel_rfl)) (fun _ _ _ h => h) (Or.inl ⟨by rfl, ?_⟩) hHeld ?_ ?_
        rotate_left; focus (rintro w' ⟨s0, s1, s2, s3, s4, s5, s6, s7, s8, s9⟩; go_simp; with_reducible rfl)
        rotate_left; focus (simp only [Act.put, List.setIfInBounds_toArray, List.set_cons_zero, List.set_cons_succ, i64_w, i32_w]; rfl)
        refine take_ (i := 5) (N := some 49) (v := ?_) (a' := ?_) backreachlaw11_SpanMeets.M20 rfl rfl (take_ofW HT_.out HW_.out (by kernel_rfl)) (fun _ _ _ h => h) (Or.inl ⟨by rfl, ?_⟩) hHeld ?_ ?_
        rotate_left; focus (rintro w' ⟨s0, s1, s2, s3, s4, s5, s6, s7, s8, s9⟩; go_simp; with_reducible rfl)
        rotate_left; focus (simp only [Act.put, List.setIfInBounds_toArray, List.set_cons_zero, List.set_cons_succ, i64_w, i32_w]; rfl)
        refine pq_ 6 50 ?_ backreachlaw11_SpanMeets.M22 HT_.out ?_ ?_ ?_ ?_
        rotate_left; focus (intro w'; go_simp; with_reducible rfl)
        rotate_left; focus (simp only [Act.put, List.setIfInBounds_toArray, List.set_cons_zero, List.set_cons_succ, i64_w, i32_w]; rfl)
        refine pq_ 7 51 ?_ backreachlaw11_SpanMeets.M25 HT_.out ?_ ?_ ?_ ?_
        rotate_left; focus (intro w'; go_simp; with_reducible rfl)
        rotate_left; focus (simp only [Act.put, List.setIfInBounds_toArray, List.set_cons_zero, List.set_cons_succ, i64_w, i32_w]; rfl)
        refine pq_ 8 52 ?_ backreachlaw11_SpanMeets.M29 HT_.out ?_ ?_ ?_ ?_
        rotate_left; focus (intro w'; go_simp; with_reducible rfl)
        rotate_left; focus (simp only [Act.put, List.setIfInBounds_toArray, List.set_cons_zero, List.set_cons_succ, i64_w, i32_w]; rfl)
        refine pq_ 10 54 ?_ backreachlaw11_SpanMeets.M30 HT_.out ?_ ?_ ?_ ?_
        rotate_left; focus (intro w'; go_simp; with_reducible rfl)
        rotate_left; focus (simp only [Act.put, List.setIfInBounds_toArray, List.set_cons_zero, List.set_cons_succ, i64_w, i32_w]; rfl)
        refine take_ (i := 9) (N := some 53) (v := ?_) (a' := ?_) backreachlaw11_SpanMeets.M35 rfl rfl (take_ofW HT_.out HW_.out (by kernel_rfl)) (fun _ _ _ h => h) (Or.inl ⟨by rfl, ?_⟩) hHeld ?_ ?_
        rotate_left; focus (rintro w' ⟨s0, s1, s2, s3, s4, s5, s6, s7, s8, s9⟩; go_simp; with_reducible rfl)
        rotate_left; focus (simp only [Act.put, List.setIfInBounds_toArray, List.set_cons_zero, List.set_cons_succ, i64_w, i32_w]; rfl)
        refine take_ (i := 11) (N := some 55) (v := ?_) (a' := ?_) backreachlaw11_SpanMeets.M37 rfl rfl (take_ofW HT_.out HW_.out (by kernel_rfl)) (fun _ _ _ h => h) (Or.inl ⟨by rfl, ?_⟩) hHeld ?_ ?_
        rotate_left; focus (rintro w' ⟨s0, s1, s2, s3, s4, s5, s6, s7, s8, s9⟩; go_simp; with_reducible rfl)
        rotate_left; focus (simp only [Act.put, List.setIfInBounds_toArray, List.set_cons_zero, List.set_cons_succ, i64_w, i32_w]; rfl)
        refine take_ (i := 12) (N := some 56) (v := ?_) (a' := ?_) backreachlaw11_SpanMeets.M39 rfl rfl (take_ofW HT_.out HW_.out (by kernel_rfl)) (fun _ _ _ h => h) (Or.inl ⟨by rfl, ?_⟩) hHeld ?_ ?_
        rotate_left; focus (rintro w' ⟨s0, s1, s2, s3, s4, s5, s6, s7, s8, s9⟩; go_simp; with_reducible rfl)
        rotate_left; focus (simp only [Act.put, List.setIfInBounds_toArray, List.set_cons_zero, List.set_cons_succ, i64_w, i32_w]; rfl)
        refine one_ (i := 13) (N := some 57) backreachlaw11_SpanMeets.M41 rfl rfl (one_of HT_.out (by kernel_rfl)) (by decide) (fun K hK => ?_)
        refine goes_ Try.func15 (by kernel_rfl) rfl #[.int .i64 a0, .agg #[.int .u64 a2_0, .int .u64 a2_1], .agg #[.int .u64 a1_0, .int .u64 a1_1]] (by rfl) rfl rfl (by (try simp only [List.map_toArray, List.map_cons, List.map_nil]); first | done | rfl | (simp only [List.length_drop, List.length_take]; rfl)) ?_
        with_reducible refine (span_Join.calls a0 a2_0 a2_1 a1_0 a1_1 t208 t209 _ A49.out).mono ?_
        rintro e w67 ⟨rfl, hb⟩
        refine ⟨_, rfl, ?_⟩
        have n0_ := Aside0.mk (bbq BK192 hb)
        have n1_ := Aside0.mk (bbq BK193 hb)
        have n2_ := Aside0.mk (bbq BK198 hb)
        have n3_ := Aside0.mk (bbq BK202 hb)
        have n4_ := Aside0.mk (bbq BK205 hb)
        have n5_ := Aside0.mk (below_step (hbq HB) hb)
        clear BK192 BK193 BK198 BK202 BK205 HB
        have BK192 := n0_
        have BK193 := n1_
        have BK198 := n2_
        have BK202 := n3_
        have BK205 := n4_
        have HB := n5_
        clear n0_ n1_ n2_ n3_ n4_ n5_
        (try clear hb)
        (try clear hb2)
        (try clear hk)
        (try clear hi)
        refine hK.out _ _ ⟨(blk_cell BK198.out 0).trans rfl, (blk_cell BK198.out 1).trans rfl, (blk_cell BK202.out 0).trans rfl, (blk_cell BK202.out 1).trans rfl, (blk_cell BK205.out 0).trans rfl, (blk_cell BK205.out 1).trans rfl, (blk_cell BK193.out 0).trans rfl, (blk_cell BK193.out 1).trans rfl, (blk_cell BK192.out 0).trans rfl, (blk_cell BK192.out 1).trans rfl⟩ (fun hHeld => ?_)
        clear hK K
        refine norm_ (a' := ?_) ?_ ?_
        rotate_left
        ·
         show Act.put _ (some 57) _ = _
         simp only [Act.put, List.setIfInBounds_toArray, List.set_cons_zero, List.set_cons_succ, i64_w, i32_w]
         rfl
        refine pq_ 14 58 ?_ backreachlaw11_SpanMeets.M43 HT_.out ?_ ?_ ?_ ?_
        rotate_left; focus (intro w'; go_simp; with_reducible rfl)
        rotate_left; focus (simp only [Act.put, List.setIfInBounds_toArray, List.set_cons_zero, List.set_cons_succ, i64_w, i32_w]; rfl)
        refine pq_ 15 59 ?_ backreachlaw11_SpanMeets.M45 HT_.out ?_ ?_ ?_ ?_
        rotate_left; focus (intro w'; go_simp; with_reducible rfl)
        rotate_left; focus (simp only [Act.put, List.setIfInBounds_toArray, List.set_cons_zero, List.set_cons_succ, i64_w, i32_w]; rfl)
        refine pq_ 16 60 ?_ backreachlaw11_SpanMeets.M47 HT_.out ?_ ?_ ?_ ?_
        rotate_left; focus (intro w'; go_simp; with_reducible rfl)
        rotate_left; focus (simp only [Act.put, List.setIfInBounds_toArray, List.set_cons_zero, List.set_cons_succ, i64_w, i32_w]; rfl)
        refine pq_ 17 61 ?_ backreachlaw11_SpanMeets.M49 HT_.out ?_ ?_ ?_ ?_
        rotate_left; focus (intro w'; go_simp; with_reducible rfl)
        rotate_left; focus (simp only [Act.put, List.setIfInBounds_toArray, List.set_cons_zero, List.set_cons_succ, i64_w, i32_w]; rfl)
        refine pq_ 18 62 ?_ backreachlaw11_SpanMeets.M51 HT_.out ?_ ?_ ?_ ?_
        rotate_left; focus (intro w'; go_simp; with_reducible rfl)
        rotate_left; focus (simp only [Act.put, List.setIfInBounds_toArray, List.set_cons_zero, List.set_cons_succ, i64_w, i32_w]; rfl)
        refine pure_ (i := 19) (N := some 63) (v := undef) (a' := ?_) backreachlaw11_SpanMeets.M53 rfl rfl (any_of HT_.out (by kernel_rfl)) (fun _ _ _ h => h) (Or.inr ⟨by rfl, rfl⟩) ?_ ?_
        rotate_left; focus (simp only [Act.put, List.setIfInBounds_toArray, List.set_cons_zero, List.set_cons_succ, i64_w, i32_w]; rfl)
        refine pq_ 20 64 ?_ backreachlaw11_SpanMeets.M55 HT_.out ?_ ?_ ?_ ?_
        rotate_left; focus (intro w'; go_simp; with_reducible rfl)
        rotate_left; focus (simp only [Act.put, List.setIfInBounds_toArray, List.set_cons_zero, List.set_cons_succ, i64_w, i32_w]; rfl)
        refine pq_ 21 65 ?_ backreachlaw11_SpanMeets.M57 HT_.out ?_ ?_ ?_ ?_
        rotate_left; focus (intro w'; go_simp; with_reducible rfl)
        rotate_left; focus (simp only [Act.put, List.setIfInBounds_toArray, List.set_cons_zero, List.set_cons_succ, i64_w, i32_w]; rfl)
        refine pq_ 22 66 ?_ backreachlaw11_SpanMeets.M59 HT_.out ?_ ?_ ?_ ?_
        rotate_left; focus (intro w'; go_simp; with_reducible rfl)
        rotate_left; focus (simp only [Act.put, List.setIfInBounds_toArray, List.set_cons_zero, List.set_cons_succ, i64_w, i32_w]; rfl)
        refine pure_ (i := 23) (N := some 67) (v := undef) (a' := ?_) backreachlaw11_SpanMeets.M61 rfl rfl (any_of HT_.out (by kernel_rfl)) (fun _ _ _ h => h) (Or.inr ⟨by rfl, rfl⟩) ?_ ?_
        rotate_left; focus (simp only [Act.put, List.setIfInBounds_toArray, List.set_cons_zero, List.set_cons_succ, i64_w, i32_w]; rfl)
        refine pure_ (i := 24) (N := some 68) (v := undef) (a' := ?_) backreachlaw11_SpanMeets.M64 rfl rfl (any_of HT_.out (by kernel_rfl)) (fun _ _ _ h => h) (Or.inr ⟨by rfl, rfl⟩) ?_ ?_
        rotate_left; focus (simp only [Act.put, List.setIfInBounds_toArray, List.set_cons_zero, List.set_cons_succ, i64_w, i32_w]; rfl)
        refine pure_ (i := 25) (N := some 69) (v := undef) (a' := ?_) backreachlaw11_SpanMeets.M66 rfl rfl (any_of HT_.out (by kernel_rfl)) (fun _ _ _ h => h) (Or.inr ⟨by rfl, rfl⟩) ?_ ?_
        rotate_left; focus (simp only [Act.put, List.setIfInBounds_toArray, List.set_cons_zero, List.set_cons_succ, i64_w, i32_w]; rfl)
        refine pure_ (i := 26) (N := some 70) (v := undef) (a' := ?_) backreachlaw11_SpanMeets.M68 rfl rfl (any_of HT_.out (by kernel_rfl)) (fun _ _ _ h => h) (Or.inr ⟨by rfl, rfl⟩) ?_ ?_
        rotate_left; focus (simp only [Act.put, List.setIfInBounds_toArray, List.set_cons_zero, List.set_cons_succ, i64_w, i32_w]; rfl)
        refine pq_ 27 71 ?_ backreachlaw11_SpanMeets.M70 HT_.out ?_ ?_ ?_ ?_
        rotate_left; focus (intro w'; go_simp; with_reducible rfl)
        rotate_left; focus (simp only [Act.put, List.setIfInBounds_toArray, List.set_cons_zero, List.set_cons_succ, i64_w, i32_w]; rfl)
        refine pq_ 28 72 ?_ backreachlaw11_SpanMeets.M72 HT_.out ?_ ?_ ?_ ?_
        rotate_left; focus (intro w'; go_simp; with_reducible rfl)
        rotate_left; focus (simp only [Act.put, List.setIfInBounds_toArray, List.set_cons_zero, List.set_cons_succ, i64_w, i32_w]; rfl)
        refine pq_ 29 73 ?_ backreachlaw11_SpanMeets.M75 HT_.out ?_ ?_ ?_ ?_
        rotate_left; focus (intro w'; go_simp; with_reducible rfl)
        rotate_left; focus (simp only [Act.put, List.setIfInBounds_toArray, List.set_cons_zero, List.set_cons_succ, i64_w, i32_w]; rfl)
        refine done_ (done_of HT_.out (by kernel_rfl)) ?_
        try go_wp2
        go_meet
        case rel => exact ⟨_, ((false != false)), (by first | rfl | (simp; done) | (simp [*]; done)), H', ⟨by first | omega | exact Nat.le_refl _⟩, ⟨by (with_reducible repeat (first | refine blk_drewN ?_ _ | refine blk_drew ?_ | refine blk_alloc ?_ _)); exact BK192.out⟩, ⟨by (with_reducible repeat (first | refine blk_drewN ?_ _ | refine blk_drew ?_ | refine blk_alloc ?_ _)); exact BK193.out⟩, ⟨by (with_reducible repeat (first | refine blk_drewN ?_ _ | refine blk_drew ?_ | refine blk_alloc ?_ _)); exact BK198.out⟩, ⟨by (with_reducible repeat (first | refine blk_drewN ?_ _ | refine blk_drew ?_ | refine blk_alloc ?_ _)); exact BK202.out⟩, ⟨by (with_reducible repeat (first | refine blk_drewN ?_ _ | refine blk_drew ?_ | refine blk_alloc ?_ _)); exact BK205.out⟩, ⟨by repeat (first | (with_reducible first | exact HB.out | apply below_alloc | apply pw_below_drewN | apply below_drew1 | refine below_set ?_ GE192.out | refine below_set ?_ GE193.out | refine below_set ?_ GE198.out | refine below_set ?_ GE202.out | refine below_set ?_ GE205.out) | exact HB.out)⟩⟩
  case rest =>
   clear HC12
   try clear c1
   try clear p2
   try clear c6
   try clear c9
   try clear c15
   try clear c61
   obtain ⟨kq, x73_11, rfl, HA, HJ11, BK192, BK193, BK198, BK202, BK205, HB⟩ := hcut
   cases kq with
   | zero => exact absurd HA.out (by simp [backreachlaw11_SpanMeets.j0])
   | succ kj11 =>
    have H := HA.out
    clear HA
    simp only [backreachlaw11_SpanMeets.j0] at H
    by_cases c68 : x73_11 = true
    ·
     subst c68
     have H1 : (some false) = some r := by rw [if_pos rfl] at H; exact H
     clear H
     have H := H1
     clear H1
     exact absurd ((Option.some.inj H).trans hr_.out) (by decide)
    ·
     replace c68 := Bool.eq_false_iff.mpr c68
     subst c68
     have H1 : (if t206 = true then ((span_Has.f a0 t203 t204 a3).bind fun t212 => (if t212 = true then ((span_Right.f a0 a1_0 a1_1).bind fun bt213 => ((span_Has.f a0 t203 t204 bt213.1).bind fun t215 => (if t215 = true then ((span_Right.f a0 a2_0 a2_1).bind fun bt216 => ((span_Has.f a0 t203 t204 bt216.2).bind fun t218 => (some t218))) else (some false)))) else (some false))) else (if t207 = true then ((span_Has.f a0 t203 t204 a3).bind fun t219 => (if t219 = true then ((span_Right.f a0 a1_0 a1_1).bind fun bt220 => ((span_Has.f a0 t203 t204 bt220.1).bind fun t222 => (if t222 = true then ((span_Right.f a0 a2_0 a2_1).bind fun bt223 => ((span_Has.f a0 t203 t204 bt223.2).bind fun t225 => (some t225))) else (some false)))) else (some false))) else ((span_Right.f a0 a1_0 a1_1).bind fun bt226 => ((span_Has.f a0 t203 t204 bt226.1).bind fun t228 => (if t228 = true then ((span_Right.f a0 a2_0 a2_1).bind fun bt229 => ((span_Has.f a0 t203 t204 bt229.2).bind fun t231 => (some t231))) else (some false)))))) = some r := by rw [if_neg (show ¬ (false = true) by decide)] at H; exact H
     clear H
     have H := H1
     clear H1
     by_cases c69 : t206 = true
     ·
      subst c69
      have H1 : ((span_Has.f a0 t203 t204 a3).bind fun t212 => (if t212 = true then ((span_Right.f a0 a1_0 a1_1).bind fun bt213 => ((span_Has.f a0 t203 t204 bt213.1).bind fun t215 => (if t215 = true then ((span_Right.f a0 a2_0 a2_1).bind fun bt216 => ((span_Has.f a0 t203 t204 bt216.2).bind fun t218 => (some t218))) else (some false)))) else (some false))) = some r := by rw [if_pos rfl] at H; exact H
      clear H
      have H := H1
      clear H1
      replace H := Option.bind_eq_some_iff.mp H
      obtain ⟨t212, A700, H⟩ := H
      replace H : (if t212 = true then ((span_Right.f a0 a1_0 a1_1).bind fun bt213 => ((span_Has.f a0 t203 t204 bt213.1).bind fun t215 => (if t215 = true then ((span_Right.f a0 a2_0 a2_1).bind fun bt216 => ((span_Has.f a0 t203 t204 bt216.2).bind fun t218 => (some t218))) else (some false)))) else (some false)) = some r := H
      have A70 := Aside0.mk A700
      clear A700
      by_cases c71 : t212 = true
      ·
       subst c71
       have H1 : ((span_Right.f a0 a1_0 a1_1).bind fun bt213 => ((span_Has.f a0 t203 t204 bt213.1).bind fun t215 => (if t215 = true then ((span_Right.f a0 a2_0 a2_1).bind fun bt216 => ((span_Has.f a0 t203 t204 bt216.2).bind fun t218 => (some t218))) else (some false)))) = some r := by rw [if_pos rfl] at H; exact H
       clear H
       have H := H1
       clear H1
       replace H := Option.bind_eq_some_iff.mp H
       obtain ⟨⟨t213, t214⟩, A720, H⟩ := H
       replace H : ((span_Has.f a0 t203 t204 t213).bind fun t215 => (if t215 = true then ((span_Right.f a0 a2_0 a2_1).bind fun bt216 => ((span_Has.f a0 t203 t204 bt216.2).bind fun t218 => (some t218))) else (some false))) = some r := H
       have A72 := Aside0.mk A720
       clear A720
       replace H := Option.bind_eq_some_iff.mp H
       obtain ⟨t215, A730, H⟩ := H
       replace H : (if t215 = true then ((span_Right.f a0 a2_0 a2_1).bind fun bt216 => ((span_Has.f a0 t203 t204 bt216.2).bind fun t218 => (some t218))) else (some false)) = some r := H
       have A73 := Aside0.mk A730
       clear A730
       by_cases c74 : t215 = true
       ·
        subst c74
        have H1 : ((span_Right.f a0 a2_0 a2_1).bind fun bt216 => ((span_Has.f a0 t203 t204 bt216.2).bind fun t218 => (some t218))) = some r := by rw [if_pos rfl] at H; exact H
        clear H
        have H := H1
        clear H1
        replace H := Option.bind_eq_some_iff.mp H
        obtain ⟨⟨t216, t217⟩, A750, H⟩ := H
        replace H : ((span_Has.f a0 t203 t204 t217).bind fun t218 => (some t218)) = some r := H
        have A75 := Aside0.mk A750
        clear A750
        replace H := Option.bind_eq_some_iff.mp H
        obtain ⟨t218, A760, H⟩ := H
        replace H : (some t218) = some r := H
        have A76 := Aside0.mk A760
        clear A760
        obtain rfl := Option.some.inj H
        try go_wp2
        have n0_ := Aside0.mk (blk_drew BK192.out)
        have n1_ := Aside0.mk (blk_drew BK193.out)
        have n2_ := Aside0.mk (blk_drew BK198.out)
        have n3_ := Aside0.mk (blk_drew BK202.out)
        have n4_ := Aside0.mk (blk_drew BK205.out)
        have n5_ := Aside0.mk (below_drew1 HB.out)
        clear BK192 BK193 BK198 BK202 BK205 HB
        have BK192 := n0_
        have BK193 := n1_
        have BK198 := n2_
        have BK202 := n3_
        have BK205 := n4_
        have HB := n5_
        clear n0_ n1_ n2_ n3_ n4_ n5_
        refine start_ (n := 31) (S := fun w' => w'.cell? ⟨gb205, 0, none⟩ = some (.int .u64 t203) ∧ w'.cell? ⟨gb205, 1, none⟩ = some (.int .u64 t204) ∧ w'.cell? ⟨gb192, 0, none⟩ = some (.int .u64 a1_0) ∧ w'.cell? ⟨gb192, 1, none⟩ = some (.int .u64 a1_1) ∧ w'.cell? ⟨gb193, 0, none⟩ = some (.int .u64 a2_0) ∧ w'.cell? ⟨gb193, 1, none⟩ = some (.int .u64 a2_1)) (ds := []) backreachlaw11_SpanMeets.M0 (by kernel_rfl) rfl rfl ⟨(blk_cell BK205.out 0).trans rfl, (blk_cell BK205.out 1).trans rfl, (blk_cell BK192.out 0).trans rfl, (blk_cell BK192.out 1).trans rfl, (blk_cell BK193.out 0).trans rfl, (blk_cell BK193.out 1).trans rfl⟩ (fun hHeld => ?_); refine with_tabW backreachlaw11_SpanMeets.tab9 backreachlaw11_SpanMeets.bits9 (fun HT_ HW_ => ?_)
        generalize wc.drew = w77 at BK192 BK193 BK198 BK202 BK205 HB hHeld ⊢
        refine pq_ 0 74 ?_ backreachlaw11_SpanMeets.M3 HT_.out ?_ ?_ ?_ ?_
        rotate_left; focus (intro w'; go_simp; with_reducible rfl)
        rotate_left; focus (simp only [Act.put, List.setIfInBounds_toArray, List.set_cons_zero, List.set_cons_succ, i64_w, i32_w]; rfl)
        refine pq_ 1 75 ?_ backreachlaw11_SpanMeets.M9 HT_.out ?_ ?_ ?_ ?_
        rotate_left; focus (intro w'; go_simp; with_reducible rfl)
        rotate_left; focus (simp only [Act.put, List.setIfInBounds_toArray, List.set_cons_zero, List.set_cons_succ, i64_w, i32_w]; rfl)
        refine pq_ 2 76 ?_ backreachlaw11_SpanMeets.M11 HT_.out ?_ ?_ ?_ ?_
        rotate_left; focus (intro w'; go_simp; with_reducible rfl)
        rotate_left; focus (simp only [Act.put, List.setIfInBounds_toArray, List.set_cons_zero, List.set_cons_succ, i64_w, i32_w]; rfl)
        refine pure_ (i := 3) (N := some 77) (v := undef) (a' := ?_) backreachlaw11_SpanMeets.M15 rfl rfl (any_of HT_.out (by kernel_rfl)) (fun _ _ _ h => h) (Or.inr ⟨by rfl, rfl⟩) ?_ ?_
        rotate_left; focus (simp only [Act.put, List.setIfInBounds_toArray, List.set_cons_zero, List.set_cons_succ, i64_w, i32_w]; rfl)
        refine pure_ (i := 4) (N := some 78) (v := undef) (a' := ?_) backreachlaw11_SpanMeets.M17 rfl rfl (any_of HT_.out (by kernel_rfl)) (fun _ _ _ h => h) (Or.inr ⟨by rfl, rfl⟩) ?_ ?_
        rotate_left; focus (simp only [Act.put, List.setIfInBounds_toArray, List.set_cons_zero, List.set_cons_succ, i64_w, i32_w]; rfl)
        refine pq_ 5 79 ?_ backreachlaw11_SpanMeets.M19 HT_.out ?_ ?_ ?_ ?_
        rotate_left; focus (intro w'; go_simp; with_reducible rfl)
        rotate_left; focus (simp only [Act.put, List.setIfInBounds_toArray, List.set_cons_zero, List.set_cons_succ, i64_w, i32_w]; rfl)
        refine pq_ 6 80 ?_ backreachlaw11_SpanMeets.M21 HT_.out ?_ ?_ ?_ ?_
        rotate_left; focus (intro w'; go_simp; with_reducible rfl)
        rotate_left; focus (simp only [Act.put, List.setIfInBounds_toArray, List.set_cons_zero, List.set_cons_succ, i64_w, i32_w]; rfl)
        refine pq_ 7 81 ?_ backreachlaw11_SpanMeets.M24 HT_.out ?_ ?_ ?_ ?_
        rotate_left; focus (intro w'; go_simp; with_reducible rfl)
        rotate_left; focus (simp only [Act.put, List.setIfInBounds_toArray, List.set_cons_zero, List.set_cons_succ, i64_w, i32_w]; rfl)
        refine pq_ 9 83 ?_ backreachlaw11_SpanMeets.M27 HT_.out ?_ ?_ ?_ ?_
        rotate_left; focus (intro w'; go_simp; with_reducible rfl)
        rotate_left; focus (simp only [Act.put, List.setIfInBounds_toArray, List.set_cons_zero, List.set_cons_succ, i64_w, i32_w]; rfl)
        refine take_ (i := 8) (N := some 82) (v := ?_) (a' := ?_) backreachlaw11_SpanMeets.M32 rfl rfl (take_ofW HT_.out HW_.out (by kernel_rfl)) (fun _ _ _ h => h) (Or.inl ⟨by rfl, ?_⟩) hHeld ?_ ?_
        rotate_left; focus (rintro w' ⟨s0, s1, s2, s3, s4, s5⟩; go_simp; with_reducible rfl)
        rotate_left; focus (simp only [Act.put, List.setIfInBounds_toArray, List.set_cons_zero, List.set_cons_succ, i64_w, i32_w]; rfl)
        refine one_ (i := 10) (N := some 84) backreachlaw11_SpanMeets.M34 rfl rfl (one_of HT_.out (by kernel_rfl)) (by decide) (fun K hK => ?_)
        refine goes_ Try.func9 (by kernel_rfl) rfl #[.int .i64 a0, .agg #[.int .u64 t203, .int .u64 t204], .int .u64 a3] (by rfl) rfl rfl (by (try simp only [List.map_toArray, List.map_cons, List.map_nil]); first | done | rfl | (simp only [List.length_drop, List.length_take]; rfl)) ?_
        with_reducible refine (span_Has.calls a0 t203 t204 a3 true _ A70.out).mono ?_
        rintro e w78 ⟨rfl, hb⟩
        refine ⟨_, rfl, ?_⟩
        have n0_ := Aside0.mk (bbq BK192 hb)
        have n1_ := Aside0.mk (bbq BK193 hb)
        have n2_ := Aside0.mk (bbq BK198 hb)
        have n3_ := Aside0.mk (bbq BK202 hb)
        have n4_ := Aside0.mk (bbq BK205 hb)
        have n5_ := Aside0.mk (below_step (hbq HB) hb)
        clear BK192 BK193 BK198 BK202 BK205 HB
        have BK192 := n0_
        have BK193 := n1_
        have BK198 := n2_
        have BK202 := n3_
        have BK205 := n4_
        have HB := n5_
        clear n0_ n1_ n2_ n3_ n4_ n5_
        (try clear hb)
        (try clear hb2)
        (try clear hk)
        (try clear hi)
        refine hK.out _ _ ⟨(blk_cell BK205.out 0).trans rfl, (blk_cell BK205.out 1).trans rfl, (blk_cell BK192.out 0).trans rfl, (blk_cell BK192.out 1).trans rfl, (blk_cell BK193.out 0).trans rfl, (blk_cell BK193.out 1).trans rfl⟩ (fun hHeld => ?_)
        clear hK K
        refine norm_ (a' := ?_) ?_ ?_
        rotate_left
        ·
         show Act.put _ (some 84) _ = _
         simp only [Act.put, List.setIfInBounds_toArray, List.set_cons_zero, List.set_cons_succ, i64_w, i32_w]
         rfl
        refine pq_ 11 85 ?_ backreachlaw11_SpanMeets.M36 HT_.out ?_ ?_ ?_ ?_
        rotate_left; focus (intro w'; go_simp; with_reducible rfl)
        rotate_left; focus (simp only [Act.put, List.setIfInBounds_toArray, List.set_cons_zero, List.set_cons_succ, i64_w, i32_w]; rfl)
        refine pq_ 12 86 ?_ backreachlaw11_SpanMeets.M38 HT_.out ?_ ?_ ?_ ?_
        rotate_left; focus (intro w'; go_simp; with_reducible rfl)
        rotate_left; focus (simp only [Act.put, List.setIfInBounds_toArray, List.set_cons_zero, List.set_cons_succ, i64_w, i32_w]; rfl)
        refine pq_ 13 87 ?_ backreachlaw11_SpanMeets.M40 HT_.out ?_ ?_ ?_ ?_
        rotate_left; focus (intro w'; go_simp; with_reducible rfl)
        rotate_left; focus (simp only [Act.put, List.setIfInBounds_toArray, List.set_cons_zero, List.set_cons_succ, i64_w, i32_w]; rfl)
        refine pq_ 15 89 ?_ backreachlaw11_SpanMeets.M42 HT_.out ?_ ?_ ?_ ?_
        rotate_left; focus (intro w'; go_simp; with_reducible rfl)
        rotate_left; focus (simp only [Act.put, List.setIfInBounds_toArray, List.set_cons_zero, List.set_cons_succ, i64_w, i32_w]; rfl)
        refine take_ (i := 14) (N := some 88) (v := ?_) (a' := ?_) backreachlaw11_SpanMeets.M44 rfl rfl (take_ofW HT_.out HW_.out (by kernel_rfl)) (fun _ _ _ h => h) (Or.inl ⟨by rfl, ?_⟩) hHeld ?_ ?_
        rotate_left; focus (rintro w' ⟨s0, s1, s2, s3, s4, s5⟩; go_simp; with_reducible rfl)
        rotate_left; focus (simp only [Act.put, List.setIfInBounds_toArray, List.set_cons_zero, List.set_cons_succ, i64_w, i32_w]; rfl)
        refine take_ (i := 16) (N := some 90) (v := ?_) (a' := ?_) backreachlaw11_SpanMeets.M46 rfl rfl (take_ofW HT_.out HW_.out (by kernel_rfl)) (fun _ _ _ h => h) (Or.inl ⟨by rfl, ?_⟩) hHeld ?_ ?_
        rotate_left; focus (rintro w' ⟨s0, s1, s2, s3, s4, s5⟩; go_simp; with_reducible rfl)
        rotate_left; focus (simp only [Act.put, List.setIfInBounds_toArray, List.set_cons_zero, List.set_cons_succ, i64_w, i32_w]; rfl)
        refine one_ (i := 17) (N := some 91) backreachlaw11_SpanMeets.M48 rfl rfl (one_of HT_.out (by kernel_rfl)) (by decide) (fun K hK => ?_)
        refine goes_ Try.func14 (by kernel_rfl) rfl #[.int .i64 a0, .agg #[.int .u64 a1_0, .int .u64 a1_1]] (by rfl) rfl rfl (by (try simp only [List.map_toArray, List.map_cons, List.map_nil]); first | done | rfl | (simp only [List.length_drop, List.length_take]; rfl)) ?_
        with_reducible refine (span_Right.calls a0 a1_0 a1_1 t213 t214 _ A72.out).mono ?_
        rintro e w79 ⟨rfl, hb⟩
        refine ⟨_, rfl, ?_⟩
        have n0_ := Aside0.mk (bbq BK192 hb)
        have n1_ := Aside0.mk (bbq BK193 hb)
        have n2_ := Aside0.mk (bbq BK198 hb)
        have n3_ := Aside0.mk (bbq BK202 hb)
        have n4_ := Aside0.mk (bbq BK205 hb)
        have n5_ := Aside0.mk (below_step (hbq HB) hb)
        clear BK192 BK193 BK198 BK202 BK205 HB
        have BK192 := n0_
        have BK193 := n1_
        have BK198 := n2_
        have BK202 := n3_
        have BK205 := n4_
        have HB := n5_
        clear n0_ n1_ n2_ n3_ n4_ n5_
        (try clear hb)
        (try clear hb2)
        (try clear hk)
        (try clear hi)
        refine hK.out _ _ ⟨(blk_cell BK205.out 0).trans rfl, (blk_cell BK205.out 1).trans rfl, (blk_cell BK192.out 0).trans rfl, (blk_cell BK192.out 1).trans rfl, (blk_cell BK193.out 0).trans rfl, (blk_cell BK193.out 1).trans rfl⟩ (fun hHeld => ?_)
        clear hK K
        refine norm_ (a' := ?_) ?_ ?_
        rotate_left
        ·
         show Act.put _ (some 91) _ = _
         simp only [Act.put, List.setIfInBounds_toArray, List.set_cons_zero, List.set_cons_succ, i64_w, i32_w]
         rfl
        refine pq_ 18 92 ?_ backreachlaw11_SpanMeets.M50 HT_.out ?_ ?_ ?_ ?_
        rotate_left; focus (intro w'; go_simp; with_reducible rfl)
        rotate_left; focus (simp only [Act.put, List.setIfInBounds_toArray, List.set_cons_zero, List.set_cons_succ, i64_w, i32_w]; rfl)
        refine one_ (i := 19) (N := some 93) backreachlaw11_SpanMeets.M52 rfl rfl (one_of HT_.out (by kernel_rfl)) (by decide) (fun K hK => ?_)
        refine goes_ Try.func9 (by kernel_rfl) rfl #[.int .i64 a0, .agg #[.int .u64 t203, .int .u64 t204], .int .u64 t213] (by rfl) rfl rfl (by (try simp only [List.map_toArray, List.map_cons, List.map_nil]); first | done | rfl | (simp only [List.length_drop, List.length_take]; rfl)) ?_
        with_reducible refine (span_Has.calls a0 t203 t204 t213 true _ A73.out).mono ?_
        rintro e w80 ⟨rfl, hb⟩
        refine ⟨_, rfl, ?_⟩
        have n0_ := Aside0.mk (bbq BK192 hb)
        have n1_ := Aside0.mk (bbq BK193 hb)
        have n2_ := Aside0.mk (bbq BK198 hb)
        have n3_ := Aside0.mk (bbq BK202 hb)
        have n4_ := Aside0.mk (bbq BK205 hb)
        have n5_ := Aside0.mk (below_step (hbq HB) hb)
        clear BK192 BK193 BK198 BK202 BK205 HB
        have BK192 := n0_
        have BK193 := n1_
        have BK198 := n2_
        have BK202 := n3_
        have BK205 := n4_
        have HB := n5_
        clear n0_ n1_ n2_ n3_ n4_ n5_
        (try clear hb)
        (try clear hb2)
        (try clear hk)
        (try clear hi)
        refine hK.out _ _ ⟨(blk_cell BK205.out 0).trans rfl, (blk_cell BK205.out 1).trans rfl, (blk_cell BK192.out 0).trans rfl, (blk_cell BK192.out 1).trans rfl, (blk_cell BK193.out 0).trans rfl, (blk_cell BK193.out 1).trans rfl⟩ (fun hHeld => ?_)
        clear hK K
        refine norm_ (a' := ?_) ?_ ?_
        rotate_left
        ·
         show Act.put _ (some 93) _ = _
         simp only [Act.put, List.setIfInBounds_toArray, List.set_cons_zero, List.set_cons_succ, i64_w, i32_w]
         rfl
        refine pq_ 20 94 ?_ backreachlaw11_SpanMeets.M54 HT_.out ?_ ?_ ?_ ?_
        rotate_left; focus (intro w'; go_simp; with_reducible rfl)
        rotate_left; focus (simp only [Act.put, List.setIfInBounds_toArray, List.set_cons_zero, List.set_cons_succ, i64_w, i32_w]; rfl)
        refine pq_ 21 95 ?_ backreachlaw11_SpanMeets.M56 HT_.out ?_ ?_ ?_ ?_
        rotate_left; focus (intro w'; go_simp; with_reducible rfl)
        rotate_left; focus (simp only [Act.put, List.setIfInBounds_toArray, List.set_cons_zero, List.set_cons_succ, i64_w, i32_w]; rfl)
        refine pq_ 22 96 ?_ backreachlaw11_SpanMeets.M58 HT_.out ?_ ?_ ?_ ?_
        rotate_left; focus (intro w'; go_simp; with_reducible rfl)
        rotate_left; focus (simp only [Act.put, List.setIfInBounds_toArray, List.set_cons_zero, List.set_cons_succ, i64_w, i32_w]; rfl)
        refine pq_ 24 98 ?_ backreachlaw11_SpanMeets.M60 HT_.out ?_ ?_ ?_ ?_
        rotate_left; focus (intro w'; go_simp; with_reducible rfl)
        rotate_left; focus (simp only [Act.put, List.setIfInBounds_toArray, List.set_cons_zero, List.set_cons_succ, i64_w, i32_w]; rfl)
        refine take_ (i := 23) (N := some 97) (v := ?_) (a' := ?_) backreachlaw11_SpanMeets.M63 rfl rfl (take_ofW HT_.out HW_.out (by kernel_rfl)) (fun _ _ _ h => h) (Or.inl ⟨by rfl, ?_⟩) hHeld ?_ ?_
        rotate_left; focus (rintro w' ⟨s0, s1, s2, s3, s4, s5⟩; go_simp; with_reducible rfl)
        rotate_left; focus (simp only [Act.put, List.setIfInBounds_toArray, List.set_cons_zero, List.set_cons_succ, i64_w, i32_w]; rfl)
        refine take_ (i := 25) (N := some 99) (v := ?_) (a' := ?_) backreachlaw11_SpanMeets.M65 rfl rfl (take_ofW HT_.out HW_.out (by kernel_rfl)) (fun _ _ _ h => h) (Or.inl ⟨by rfl, ?_⟩) hHeld ?_ ?_
        rotate_left; focus (rintro w' ⟨s0, s1, s2, s3, s4, s5⟩; go_simp; with_reducible rfl)
        rotate_left; focus (simp only [Act.put, List.setIfInBounds_toArray, List.set_cons_zero, List.set_cons_succ, i64_w, i32_w]; rfl)
        refine one_ (i := 26) (N := some 100) backreachlaw11_SpanMeets.M67 rfl rfl (one_of HT_.out (by kernel_rfl)) (by decide) (fun K hK => ?_)
        refine goes_ Try.func14 (by kernel_rfl) rfl #[.int .i64 a0, .agg #[.int .u64 a2_0, .int .u64 a2_1]] (by rfl) rfl rfl (by (try simp only [List.map_toArray, List.map_cons, List.map_nil]); first | done | rfl | (simp only [List.length_drop, List.length_take]; rfl)) ?_
        with_reducible refine (span_Right.calls a0 a2_0 a2_1 t216 t217 _ A75.out).mono ?_
        rintro e w81 ⟨rfl, hb⟩
        refine ⟨_, rfl, ?_⟩
        have n0_ := Aside0.mk (bbq BK192 hb)
        have n1_ := Aside0.mk (bbq BK193 hb)
        have n2_ := Aside0.mk (bbq BK198 hb)
        have n3_ := Aside0.mk (bbq BK202 hb)
        have n4_ := Aside0.mk (bbq BK205 hb)
        have n5_ := Aside0.mk (below_step (hbq HB) hb)
        clear BK192 BK193 BK198 BK202 BK205 HB
        have BK192 := n0_
        have BK193 := n1_
        have BK198 := n2_
        have BK202 := n3_
        have BK205 := n4_
        have HB := n5_
        clear n0_ n1_ n2_ n3_ n4_ n5_
        (try clear hb)
        (try clear hb2)
        (try clear hk)
        (try clear hi)
        refine hK.out _ _ ⟨(blk_cell BK205.out 0).trans rfl, (blk_cell BK205.out 1).trans rfl, (blk_cell BK192.out 0).trans rfl, (blk_cell BK192.out 1).trans rfl, (blk_cell BK193.out 0).trans rfl, (blk_cell BK193.out 1).trans rfl⟩ (fun hHeld => ?_)
        clear hK K
        refine norm_ (a' := ?_) ?_ ?_
        rotate_left
        ·
         show Act.put _ (some 100) _ = _
         simp only [Act.put, List.setIfInBounds_toArray, List.set_cons_zero, List.set_cons_succ, i64_w, i32_w]
         rfl
        refine pq_ 27 101 ?_ backreachlaw11_SpanMeets.M69 HT_.out ?_ ?_ ?_ ?_
        rotate_left; focus (intro w'; go_simp; with_reducible rfl)
        rotate_left; focus (simp only [Act.put, List.setIfInBounds_toArray, List.set_cons_zero, List.set_cons_succ, i64_w, i32_w]; rfl)
        refine one_ (i := 28) (N := some 102) backreachlaw11_SpanMeets.M71 rfl rfl (one_of HT_.out (by kernel_rfl)) (by decide) (fun K hK => ?_)
        refine goes_ Try.func9 (by kernel_rfl) rfl #[.int .i64 a0, .agg #[.int .u64 t203, .int .u64 t204], .int .u64 t217] (by rfl) rfl rfl (by (try simp only [List.map_toArray, List.map_cons, List.map_nil]); first | done | rfl | (simp only [List.length_drop, List.length_take]; rfl)) ?_
        with_reducible refine (span_Has.calls a0 t203 t204 t217 t218 _ A76.out).mono ?_
        rintro e w82 ⟨rfl, hb⟩
        refine ⟨_, rfl, ?_⟩
        have n0_ := Aside0.mk (bbq BK192 hb)
        have n1_ := Aside0.mk (bbq BK193 hb)
        have n2_ := Aside0.mk (bbq BK198 hb)
        have n3_ := Aside0.mk (bbq BK202 hb)
        have n4_ := Aside0.mk (bbq BK205 hb)
        have n5_ := Aside0.mk (below_step (hbq HB) hb)
        clear BK192 BK193 BK198 BK202 BK205 HB
        have BK192 := n0_
        have BK193 := n1_
        have BK198 := n2_
        have BK202 := n3_
        have BK205 := n4_
        have HB := n5_
        clear n0_ n1_ n2_ n3_ n4_ n5_
        (try clear hb)
        (try clear hb2)
        (try clear hk)
        (try clear hi)
        refine hK.out _ _ ⟨(blk_cell BK205.out 0).trans rfl, (blk_cell BK205.out 1).trans rfl, (blk_cell BK192.out 0).trans rfl, (blk_cell BK192.out 1).trans rfl, (blk_cell BK193.out 0).trans rfl, (blk_cell BK193.out 1).trans rfl⟩ (fun hHeld => ?_)
        clear hK K
        refine norm_ (a' := ?_) ?_ ?_
        rotate_left
        ·
         show Act.put _ (some 102) _ = _
         simp only [Act.put, List.setIfInBounds_toArray, List.set_cons_zero, List.set_cons_succ, i64_w, i32_w]
         rfl
        refine pq_ 29 103 ?_ backreachlaw11_SpanMeets.M73 HT_.out ?_ ?_ ?_ ?_
        rotate_left; focus (intro w'; go_simp; with_reducible rfl)
        rotate_left; focus (simp only [Act.put, List.setIfInBounds_toArray, List.set_cons_zero, List.set_cons_succ, i64_w, i32_w]; rfl)
        refine pq_ 30 8 ?_ backreachlaw11_SpanMeets.M74 HT_.out ?_ ?_ ?_ ?_
        rotate_left; focus (intro w'; go_simp; with_reducible rfl)
        rotate_left; focus (simp only [Act.put, List.setIfInBounds_toArray, List.set_cons_zero, List.set_cons_succ, i64_w, i32_w]; rfl)
        refine done_ (done_of HT_.out (by kernel_rfl)) ?_
        try go_wp2
        go_ret
        exact ⟨by first | rfl | (simp [errW_none, errW_some] <;> rfl) | (simp [*, errW_none, errW_some] <;> rfl), by repeat (first | (with_reducible first | exact HB.out | apply below_alloc | apply pw_below_drewN | apply below_drew1 | refine below_set ?_ GE192.out | refine below_set ?_ GE193.out | refine below_set ?_ GE198.out | refine below_set ?_ GE202.out | refine below_set ?_ GE205.out) | exact HB.out)⟩
       ·
        replace c74 := Bool.eq_false_iff.mpr c74
        subst c74
        have H1 : (some false) = some r := by rw [if_neg (show ¬ (false = true) by decide)] at H; exact H
        clear H
        have H := H1
        clear H1
        exact absurd ((Option.some.inj H).trans hr_.out) (by decide)
      ·
       replace c71 := Bool.eq_false_iff.mpr c71
       subst c71
       have H1 : (some false) = some r := by rw [if_neg (show ¬ (false = true) by decide)] at H; exact H
       clear H
       have H := H1
       clear H1
       exact absurd ((Option.some.inj H).trans hr_.out) (by decide)
     ·
      replace c69 := Bool.eq_false_iff.mpr c69
      subst c69
      have H1 : (if t207 = true then ((span_Has.f a0 t203 t204 a3).bind fun t219 => (if t219 = true then ((span_Right.f a0 a1_0 a1_1).bind fun bt220 => ((span_Has.f a0 t203 t204 bt220.1).bind fun t222 => (if t222 = true then ((span_Right.f a0 a2_0 a2_1).bind fun bt223 => ((span_Has.f a0 t203 t204 bt223.2).bind fun t225 => (some t225))) else (some false)))) else (some false))) else ((span_Right.f a0 a1_0 a1_1).bind fun bt226 => ((span_Has.f a0 t203 t204 bt226.1).bind fun t228 => (if t228 = true then ((span_Right.f a0 a2_0 a2_1).bind fun bt229 => ((span_Has.f a0 t203 t204 bt229.2).bind fun t231 => (some t231))) else (some false))))) = some r := by rw [if_neg (show ¬ (false = true) by decide)] at H; exact H
      clear H
      have H := H1
      clear H1
      by_cases c83 : t207 = true
      ·
       subst c83
       have H1 : ((span_Has.f a0 t203 t204 a3).bind fun t219 => (if t219 = true then ((span_Right.f a0 a1_0 a1_1).bind fun bt220 => ((span_Has.f a0 t203 t204 bt220.1).bind fun t222 => (if t222 = true then ((span_Right.f a0 a2_0 a2_1).bind fun bt223 => ((span_Has.f a0 t203 t204 bt223.2).bind fun t225 => (some t225))) else (some false)))) else (some false))) = some r := by rw [if_pos rfl] at H; exact H
       clear H
       have H := H1
       clear H1
       replace H := Option.bind_eq_some_iff.mp H
       obtain ⟨t219, A840, H⟩ := H
       replace H : (if t219 = true then ((span_Right.f a0 a1_0 a1_1).bind fun bt220 => ((span_Has.f a0 t203 t204 bt220.1).bind fun t222 => (if t222 = true then ((span_Right.f a0 a2_0 a2_1).bind fun bt223 => ((span_Has.f a0 t203 t204 bt223.2).bind fun t225 => (some t225))) else (some false)))) else (some false)) = some r := H
       have A84 := Aside0.mk A840
       clear A840
       by_cases c85 : t219 = true
       ·
        subst c85
        have H1 : ((span_Right.f a0 a1_0 a1_1).bind fun bt220 => ((span_Has.f a0 t203 t204 bt220.1).bind fun t222 => (if t222 = true then ((span_Right.f a0 a2_0 a2_1).bind fun bt223 => ((span_Has.f a0 t203 t204 bt223.2).bind fun t225 => (some t225))) else (some false)))) = some r := by rw [if_pos rfl] at H; exact H
        clear H
        have H := H1
        clear H1
        replace H := Option.bind_eq_some_iff.mp H
        obtain ⟨⟨t220, t221⟩, A860, H⟩ := H
        replace H : ((span_Has.f a0 t203 t204 t220).bind fun t222 => (if t222 = true then ((span_Right.f a0 a2_0 a2_1).bind fun bt223 => ((span_Has.f a0 t203 t204 bt223.2).bind fun t225 => (some t225))) else (some false))) = some r := H
        have A86 := Aside0.mk A860
        clear A860
        replace H := Option.bind_eq_some_iff.mp H
        obtain ⟨t222, A870, H⟩ := H
        replace H : (if t222 = true then ((span_Right.f a0 a2_0 a2_1).bind fun bt223 => ((span_Has.f a0 t203 t204 bt223.2).bind fun t225 => (some t225))) else (some false)) = some r := H
        have A87 := Aside0.mk A870
        clear A870
        by_cases c88 : t222 = true
        ·
         subst c88
         have H1 : ((span_Right.f a0 a2_0 a2_1).bind fun bt223 => ((span_Has.f a0 t203 t204 bt223.2).bind fun t225 => (some t225))) = some r := by rw [if_pos rfl] at H; exact H
         clear H
         have H := H1
         clear H1
         replace H := Option.bind_eq_some_iff.mp H
         obtain ⟨⟨t223, t224⟩, A890, H⟩ := H
         replace H : ((span_Has.f a0 t203 t204 t224).bind fun t225 => (some t225)) = some r := H
         have A89 := Aside0.mk A890
         clear A890
         replace H := Option.bind_eq_some_iff.mp H
         obtain ⟨t225, A900, H⟩ := H
         replace H : (some t225) = some r := H
         have A90 := Aside0.mk A900
         clear A900
         obtain rfl := Option.some.inj H
         try go_wp2
         have n0_ := Aside0.mk (blk_drew BK192.out)
         have n1_ := Aside0.mk (blk_drew BK193.out)
         have n2_ := Aside0.mk (blk_drew BK198.out)
         have n3_ := Aside0.mk (blk_drew BK202.out)
         have n4_ := Aside0.mk (blk_drew BK205.out)
         have n5_ := Aside0.mk (below_drew1 HB.out)
         clear BK192 BK193 BK198 BK202 BK205 HB
         have BK192 := n0_
         have BK193 := n1_
         have BK198 := n2_
         have BK202 := n3_
         have BK205 := n4_
         have HB := n5_
         clear n0_ n1_ n2_ n3_ n4_ n5_
         refine start_ (n := 31) (S := fun w' => w'.cell? ⟨gb205, 0, none⟩ = some (.int .u64 t203) ∧ w'.cell? ⟨gb205, 1, none⟩ = some (.int .u64 t204) ∧ w'.cell? ⟨gb192, 0, none⟩ = some (.int .u64 a1_0) ∧ w'.cell? ⟨gb192, 1, none⟩ = some (.int .u64 a1_1) ∧ w'.cell? ⟨gb193, 0, none⟩ = some (.int .u64 a2_0) ∧ w'.cell? ⟨gb193, 1, none⟩ = some (.int .u64 a2_1)) (ds := []) backreachlaw11_SpanMeets.M0 (by kernel_rfl) rfl rfl ⟨(blk_cell BK205.out 0).trans rfl, (blk_cell BK205.out 1).trans rfl, (blk_cell BK192.out 0).trans rfl, (blk_cell BK192.out 1).trans rfl, (blk_cell BK193.out 0).trans rfl, (blk_cell BK193.out 1).trans rfl⟩ (fun hHeld => ?_); refine with_tabW backreachlaw11_SpanMeets.tab9 backreachlaw11_SpanMeets.bits9 (fun HT_ HW_ => ?_)
         generalize wc.drew = w91 at BK192 BK193 BK198 BK202 BK205 HB hHeld ⊢
         refine pq_ 0 74 ?_ backreachlaw11_SpanMeets.M3 HT_.out ?_ ?_ ?_ ?_
         rotate_left; focus (intro w'; go_simp; with_reducible rfl)
         rotate_left; focus (simp only [Act.put, List.setIfInBounds_toArray, List.set_cons_zero, List.set_cons_succ, i64_w, i32_w]; rfl)
         refine pq_ 1 75 ?_ backreachlaw11_SpanMeets.M9 HT_.out ?_ ?_ ?_ ?_
         rotate_left; focus (intro w'; go_simp; with_reducible rfl)
         rotate_left; focus (simp only [Act.put, List.setIfInBounds_toArray, List.set_cons_zero, List.set_cons_succ, i64_w, i32_w]; rfl)
         refine pq_ 2 76 ?_ backreachlaw11_SpanMeets.M11 HT_.out ?_ ?_ ?_ ?_
         rotate_left; focus (intro w'; go_simp; with_reducible rfl)
         rotate_left; focus (simp only [Act.put, List.setIfInBounds_toArray, List.set_cons_zero, List.set_cons_succ, i64_w, i32_w]; rfl)
         refine pq_ 3 77 ?_ backreachlaw11_SpanMeets.M15 HT_.out ?_ ?_ ?_ ?_
         rotate_left; focus (intro w'; go_simp; with_reducible rfl)
         rotate_left; focus (simp only [Act.put, List.setIfInBounds_toArray, List.set_cons_zero, List.set_cons_succ, i64_w, i32_w]; rfl)
         refine pq_ 4 78 ?_ backreachlaw11_SpanMeets.M17 HT_.out ?_ ?_ ?_ ?_
         rotate_left; focus (intro w'; go_simp; with_reducible rfl)
         rotate_left; focus (simp only [Act.put, List.setIfInBounds_toArray, List.set_cons_zero, List.set_cons_succ, i64_w, i32_w]; rfl)
         refine pq_ 5 79 ?_ backreachlaw11_SpanMeets.M19 HT_.out ?_ ?_ ?_ ?_
         rotate_left; focus (intro w'; go_simp; with_reducible rfl)
         rotate_left; focus (simp only [Act.put, List.setIfInBounds_toArray, List.set_cons_zero, List.set_cons_succ, i64_w, i32_w]; rfl)
         refine pq_ 6 80 ?_ backreachlaw11_SpanMeets.M21 HT_.out ?_ ?_ ?_ ?_
         rotate_left; focus (intro w'; go_simp; with_reducible rfl)
         rotate_left; focus (simp only [Act.put, List.setIfInBounds_toArray, List.set_cons_zero, List.set_cons_succ, i64_w, i32_w]; rfl)
         refine pq_ 7 81 ?_ backreachlaw11_SpanMeets.M24 HT_.out ?_ ?_ ?_ ?_
         rotate_left; focus (intro w'; go_simp; with_reducible rfl)
         rotate_left; focus (simp only [Act.put, List.setIfInBounds_toArray, List.set_cons_zero, List.set_cons_succ, i64_w, i32_w]; rfl)
         refine pq_ 9 83 ?_ backreachlaw11_SpanMeets.M27 HT_.out ?_ ?_ ?_ ?_
         rotate_left; focus (intro w'; go_simp; with_reducible rfl)
         rotate_left; focus (simp only [Act.put, List.setIfInBounds_toArray, List.set_cons_zero, List.set_cons_succ, i64_w, i32_w]; rfl)
         refine take_ (i := 8) (N := some 82) (v := ?_) (a' := ?_) backreachlaw11_SpanMeets.M32 rfl rfl (take_ofW HT_.out HW_.out (by kernel_rfl)) (fun _ _ _ h => h) (Or.inl ⟨by rfl, ?_⟩) hHeld ?_ ?_
         rotate_left; focus (rintro w' ⟨s0, s1, s2, s3, s4, s5⟩; go_simp; with_reducible rfl)
         rotate_left; focus (simp only [Act.put, List.setIfInBounds_toArray, List.set_cons_zero, List.set_cons_succ, i64_w, i32_w]; rfl)
         refine one_ (i := 10) (N := some 84) backreachlaw11_SpanMeets.M34 rfl rfl (one_of HT_.out (by kernel_rfl)) (by decide) (fun K hK => ?_)
         refine goes_ Try.func9 (by kernel_rfl) rfl #[.int .i64 a0, .agg #[.int .u64 t203, .int .u64 t204], .int .u64 a3] (by rfl) rfl rfl (by (try simp only [List.map_toArray, List.map_cons, List.map_nil]); first | done | rfl | (simp only [List.length_drop, List.length_take]; rfl)) ?_
         with_reducible refine (span_Has.calls a0 t203 t204 a3 true _ A84.out).mono ?_
         rintro e w92 ⟨rfl, hb⟩
         refine ⟨_, rfl, ?_⟩
         have n0_ := Aside0.mk (bbq BK192 hb)
         have n1_ := Aside0.mk (bbq BK193 hb)
         have n2_ := Aside0.mk (bbq BK198 hb)
         have n3_ := Aside0.mk (bbq BK202 hb)
         have n4_ := Aside0.mk (bbq BK205 hb)
         have n5_ := Aside0.mk (below_step (hbq HB) hb)
         clear BK192 BK193 BK198 BK202 BK205 HB
         have BK192 := n0_
         have BK193 := n1_
         have BK198 := n2_
         have BK202 := n3_
         have BK205 := n4_
         have HB := n5_
         clear n0_ n1_ n2_ n3_ n4_ n5_
         (try clear hb)
         (try clear hb2)
         (try clear hk)
         (try clear hi)
         refine hK.out _ _ ⟨(blk_cell BK205.out 0).trans rfl, (blk_cell BK205.out 1).trans rfl, (blk_cell BK192.out 0).trans rfl, (blk_cell BK192.out 1).trans rfl, (blk_cell BK193.out 0).trans rfl, (blk_cell BK193.out 1).trans rfl⟩ (fun hHeld => ?_)
         clear hK K
         refine norm_ (a' := ?_) ?_ ?_
         rotate_left
         ·
          show Act.put _ (some 84) _ = _
          simp only [Act.put, List.setIfInBounds_toArray, List.set_cons_zero, List.set_cons_succ, i64_w, i32_w]
          rfl
         refine pq_ 11 85 ?_ backreachlaw11_SpanMeets.M36 HT_.out ?_ ?_ ?_ ?_
         rotate_left; focus (intro w'; go_simp; with_reducible rfl)
         rotate_left; focus (simp only [Act.put, List.setIfInBounds_toArray, List.set_cons_zero, List.set_cons_succ, i64_w, i32_w]; rfl)
         refine pq_ 12 86 ?_ backreachlaw11_SpanMeets.M38 HT_.out ?_ ?_ ?_ ?_
         rotate_left; focus (intro w'; go_simp; with_reducible rfl)
         rotate_left; focus (simp only [Act.put, List.setIfInBounds_toArray, List.set_cons_zero, List.set_cons_succ, i64_w, i32_w]; rfl)
         refine pq_ 13 87 ?_ backreachlaw11_SpanMeets.M40 HT_.out ?_ ?_ ?_ ?_
         rotate_left; focus (intro w'; go_simp; with_reducible rfl)
         rotate_left; focus (simp only [Act.put, List.setIfInBounds_toArray, List.set_cons_zero, List.set_cons_succ, i64_w, i32_w]; rfl)
         refine pq_ 15 89 ?_ backreachlaw11_SpanMeets.M42 HT_.out ?_ ?_ ?_ ?_
         rotate_left; focus (intro w'; go_simp; with_reducible rfl)
         rotate_left; focus (simp only [Act.put, List.setIfInBounds_toArray, List.set_cons_zero, List.set_cons_succ, i64_w, i32_w]; rfl)
         refine take_ (i := 14) (N := some 88) (v := ?_) (a' := ?_) backreachlaw11_SpanMeets.M44 rfl rfl (take_ofW HT_.out HW_.out (by kernel_rfl)) (fun _ _ _ h => h) (Or.inl ⟨by rfl, ?_⟩) hHeld ?_ ?_
         rotate_left; focus (rintro w' ⟨s0, s1, s2, s3, s4, s5⟩; go_simp; with_reducible rfl)
         rotate_left; focus (simp only [Act.put, List.setIfInBounds_toArray, List.set_cons_zero, List.set_cons_succ, i64_w, i32_w]; rfl)
         refine take_ (i := 16) (N := some 90) (v := ?_) (a' := ?_) backreachlaw11_SpanMeets.M46 rfl rfl (take_ofW HT_.out HW_.out (by kernel_rfl)) (fun _ _ _ h => h) (Or.inl ⟨by rfl, ?_⟩) hHeld ?_ ?_
         rotate_left; focus (rintro w' ⟨s0, s1, s2, s3, s4, s5⟩; go_simp; with_reducible rfl)
         rotate_left; focus (simp only [Act.put, List.setIfInBounds_toArray, List.set_cons_zero, List.set_cons_succ, i64_w, i32_w]; rfl)
         refine one_ (i := 17) (N := some 91) backreachlaw11_SpanMeets.M48 rfl rfl (one_of HT_.out (by kernel_rfl)) (by decide) (fun K hK => ?_)
         refine goes_ Try.func14 (by kernel_rfl) rfl #[.int .i64 a0, .agg #[.int .u64 a1_0, .int .u64 a1_1]] (by rfl) rfl rfl (by (try simp only [List.map_toArray, List.map_cons, List.map_nil]); first | done | rfl | (simp only [List.length_drop, List.length_take]; rfl)) ?_
         with_reducible refine (span_Right.calls a0 a1_0 a1_1 t220 t221 _ A86.out).mono ?_
         rintro e w93 ⟨rfl, hb⟩
         refine ⟨_, rfl, ?_⟩
         have n0_ := Aside0.mk (bbq BK192 hb)
         have n1_ := Aside0.mk (bbq BK193 hb)
         have n2_ := Aside0.mk (bbq BK198 hb)
         have n3_ := Aside0.mk (bbq BK202 hb)
         have n4_ := Aside0.mk (bbq BK205 hb)
         have n5_ := Aside0.mk (below_step (hbq HB) hb)
         clear BK192 BK193 BK198 BK202 BK205 HB
         have BK192 := n0_
         have BK193 := n1_
         have BK198 := n2_
         have BK202 := n3_
         have BK205 := n4_
         have HB := n5_
         clear n0_ n1_ n2_ n3_ n4_ n5_
         (try clear hb)
         (try clear hb2)
         (try clear hk)
         (try clear hi)
         refine hK.out _ _ ⟨(blk_cell BK205.out 0).trans rfl, (blk_cell BK205.out 1).trans rfl, (blk_cell BK192.out 0).trans rfl, (blk_cell BK192.out 1).trans rfl, (blk_cell BK193.out 0).trans rfl, (blk_cell BK193.out 1).trans rfl⟩ (fun hHeld => ?_)
         clear hK K
         refine norm_ (a' := ?_) ?_ ?_
         rotate_left
         ·
          show Act.put _ (some 91) _ = _
          simp only [Act.put, List.setIfInBounds_toArray, List.set_cons_zero, List.set_cons_succ, i64_w, i32_w]
          rfl
         refine pq_ 18 92 ?_ backreachlaw11_SpanMeets.M50 HT_.out ?_ ?_ ?_ ?_
         rotate_left; focus (intro w'; go_simp; with_reducible rfl)
         rotate_left; focus (simp only [Act.put, List.setIfInBounds_toArray, List.set_cons_zero, List.set_cons_succ, i64_w, i32_w]; rfl)
         refine one_ (i := 19) (N := some 93) backreachlaw11_SpanMeets.M52 rfl rfl (one_of HT_.out (by kernel_rfl)) (by decide) (fun K hK => ?_)
         refine goes_ Try.func9 (by kernel_rfl) rfl #[.int .i64 a0, .agg #[.int .u64 t203, .int .u64 t204], .int .u64 t220] (by rfl) rfl rfl (by (try simp only [List.map_toArray, List.map_cons, List.map_nil]); first | done | rfl | (simp only [List.length_drop, List.length_take]; rfl)) ?_
         with_reducible refine (span_Has.calls a0 t203 t204 t220 true _ A87.out).mono ?_
         rintro e w94 ⟨rfl, hb⟩
         refine ⟨_, rfl, ?_⟩
         have n0_ := Aside0.mk (bbq BK192 hb)
         have n1_ := Aside0.mk (bbq BK193 hb)
         have n2_ := Aside0.mk (bbq BK198 hb)
         have n3_ := Aside0.mk (bbq BK202 hb)
         have n4_ := Aside0.mk (bbq BK205 hb)
         have n5_ := Aside0.mk (below_step (hbq HB) hb)
         clear BK192 BK193 BK198 BK202 BK205 HB
         have BK192 := n0_
         have BK193 := n1_
         have BK198 := n2_
         have BK202 := n3_
         have BK205 := n4_
         have HB := n5_
         clear n0_ n1_ n2_ n3_ n4_ n5_
         (try clear hb)
         (try clear hb2)
         (try clear hk)
         (try clear hi)
         refine hK.out _ _ ⟨(blk_cell BK205.out 0).trans rfl, (blk_cell BK205.out 1).trans rfl, (blk_cell BK192.out 0).trans rfl, (blk_cell BK192.out 1).trans rfl, (blk_cell BK193.out 0).trans rfl, (blk_cell BK193.out 1).trans rfl⟩ (fun hHeld => ?_)
         clear hK K
         refine norm_ (a' := ?_) ?_ ?_
         rotate_left
         ·
          show Act.put _ (some 93) _ = _
          simp only [Act.put, List.setIfInBounds_toArray, List.set_cons_zero, List.set_cons_succ, i64_w, i32_w]
          rfl
         refine pq_ 20 94 ?_ backreachlaw11_SpanMeets.M54 HT_.out ?_ ?_ ?_ ?_
         rotate_left; focus (intro w'; go_simp; with_reducible rfl)
         rotate_left; focus (simp only [Act.put, List.setIfInBounds_toArray, List.set_cons_zero, List.set_cons_succ, i64_w, i32_w]; rfl)
         refine pq_ 21 95 ?_ backreachlaw11_SpanMeets.M56 HT_.out ?_ ?_ ?_ ?_
         rotate_left; focus (intro w'; go_simp; with_reducible rfl)
         rotate_left; focus (simp only [Act.put, List.setIfInBounds_toArray, List.set_cons_zero, List.set_cons_succ, i64_w, i32_w]; rfl)
         refine pq_ 22 96 ?_ backreachlaw11_SpanMeets.M58 HT_.out ?_ ?_ ?_ ?_
         rotate_left; focus (intro w'; go_simp; with_reducible rfl)
         rotate_left; focus (simp only [Act.put, List.setIfInBounds_toArray, List.set_cons_zero, List.set_cons_succ, i64_w, i32_w]; rfl)
         refine pq_ 24 98 ?_ backreachlaw11_SpanMeets.M60 HT_.out ?_ ?_ ?_ ?_
         rotate_left; focus (intro w'; go_simp; with_reducible rfl)
         rotate_left; focus (simp only [Act.put, List.setIfInBounds_toArray, List.set_cons_zero, List.set_cons_succ, i64_w, i32_w]; rfl)
         refine take_ (i := 23) (N := some 97) (v := ?_) (a' := ?_) backreachlaw11_SpanMeets.M63 rfl rfl (take_ofW HT_.out HW_.out (by kernel_rfl)) (fun _ _ _ h => h) (Or.inl ⟨by rfl, ?_⟩) hHeld ?_ ?_
         rotate_left; focus (rintro w' ⟨s0, s1, s2, s3, s4, s5⟩; go_simp; with_reducible rfl)
         rotate_left; focus (simp only [Act.put, List.setIfInBounds_toArray, List.set_cons_zero, List.set_cons_succ, i64_w, i32_w]; rfl)
         refine take_ (i := 25) (N := some 99) (v := ?_) (a' := ?_) backreachlaw11_SpanMeets.M65 rfl rfl (take_ofW HT_.out HW_.out (by kernel_rfl)) (fun _ _ _ h => h) (Or.inl ⟨by rfl, ?_⟩) hHeld ?_ ?_
         rotate_left; focus (rintro w' ⟨s0, s1, s2, s3, s4, s5⟩; go_simp; with_reducible rfl)
         rotate_left; focus (simp only [Act.put, List.setIfInBounds_toArray, List.set_cons_zero, List.set_cons_succ, i64_w, i32_w]; rfl)
         refine one_ (i := 26) (N := some 100) backreachlaw11_SpanMeets.M67 rfl rfl (one_of HT_.out (by kernel_rfl)) (by decide) (fun K hK => ?_)
         refine goes_ Try.func14 (by kernel_rfl) rfl #[.int .i64 a0, .agg #[.int .u64 a2_0, .int .u64 a2_1]] (by rfl) rfl rfl (by (try simp only [List.map_toArray, List.map_cons, List.map_nil]); first | done | rfl | (simp only [List.length_drop, List.length_take]; rfl)) ?_
         with_reducible refine (span_Right.calls a0 a2_0 a2_1 t223 t224 _ A89.out).mono ?_
         rintro e w95 ⟨rfl, hb⟩
         refine ⟨_, rfl, ?_⟩
         have n0_ := Aside0.mk (bbq BK192 hb)
         have n1_ := Aside0.mk (bbq BK193 hb)
         have n2_ := Aside0.mk (bbq BK198 hb)
         have n3_ := Aside0.mk (bbq BK202 hb)
         have n4_ := Aside0.mk (bbq BK205 hb)
         have n5_ := Aside0.mk (below_step (hbq HB) hb)
         clear BK192 BK193 BK198 BK202 BK205 HB
         have BK192 := n0_
         have BK193 := n1_
         have BK198 := n2_
         have BK202 := n3_
         have BK205 := n4_
         have HB := n5_
         clear n0_ n1_ n2_ n3_ n4_ n5_
         (try clear hb)
         (try clear hb2)
         (try clear hk)
         (try clear hi)
         refine hK.out _ _ ⟨(blk_cell BK205.out 0).trans rfl, (blk_cell BK205.out 1).trans rfl, (blk_cell BK192.out 0).trans rfl, (blk_cell BK192.out 1).trans rfl, (blk_cell BK193.out 0).trans rfl, (blk_cell BK193.out 1).trans rfl⟩ (fun hHeld => ?_)
         clear hK K
         refine norm_ (a' := ?_) ?_ ?_
         rotate_left
         ·
          show Act.put _ (some 100) _ = _
          simp only [Act.put, List.setIfInBounds_toArray, List.set_cons_zero, List.set_cons_succ, i64_w, i32_w]
          rfl
         refine pq_ 27 101 ?_ backreachlaw11_SpanMeets.M69 HT_.out ?_ ?_ ?_ ?_
         rotate_left; focus (intro w'; go_simp; with_reducible rfl)
         rotate_left; focus (simp only [Act.put, List.setIfInBounds_toArray, List.set_cons_zero, List.set_cons_succ, i64_w, i32_w]; rfl)
         refine one_ (i := 28) (N := some 102) backreachlaw11_SpanMeets.M71 rfl rfl (one_of HT_.out (by kernel_rfl)) (by decide) (fun K hK => ?_)
         refine goes_ Try.func9 (by kernel_rfl) rfl #[.int .i64 a0, .agg #[.int .u64 t203, .int .u64 t204], .int .u64 t224] (by rfl) rfl rfl (by (try simp only [List.map_toArray, List.map_cons, List.map_nil]); first | done | rfl | (simp only [List.length_drop, List.length_take]; rfl)) ?_
         with_reducible refine (span_Has.calls a0 t203 t204 t224 t225 _ A90.out).mono ?_
         rintro e w96 ⟨rfl, hb⟩
         refine ⟨_, rfl, ?_⟩
         have n0_ := Aside0.mk (bbq BK192 hb)
         have n1_ := Aside0.mk (bbq BK193 hb)
         have n2_ := Aside0.mk (bbq BK198 hb)
         have n3_ := Aside0.mk (bbq BK202 hb)
         have n4_ := Aside0.mk (bbq BK205 hb)
         have n5_ := Aside0.mk (below_step (hbq HB) hb)
         clear BK192 BK193 BK198 BK202 BK205 HB
         have BK192 := n0_
         have BK193 := n1_
         have BK198 := n2_
         have BK202 := n3_
         have BK205 := n4_
         have HB := n5_
         clear n0_ n1_ n2_ n3_ n4_ n5_
         (try clear hb)
         (try clear hb2)
         (try clear hk)
         (try clear hi)
         refine hK.out _ _ ⟨(blk_cell BK205.out 0).trans rfl, (blk_cell BK205.out 1).trans rfl, (blk_cell BK192.out 0).trans rfl, (blk_cell BK192.out 1).trans rfl, (blk_cell BK193.out 0).trans rfl, (blk_cell BK193.out 1).trans rfl⟩ (fun hHeld => ?_)
         clear hK K
         refine norm_ (a' := ?_) ?_ ?_
         rotate_left
         ·
          show Act.put _ (some 102) _ = _
          simp only [Act.put, List.setIfInBounds_toArray, List.set_cons_zero, List.set_cons_succ, i64_w, i32_w]
          rfl
         refine pq_ 29 103 ?_ backreachlaw11_SpanMeets.M73 HT_.out ?_ ?_ ?_ ?_
         rotate_left; focus (intro w'; go_simp; with_reducible rfl)
         rotate_left; focus (simp only [Act.put, List.setIfInBounds_toArray, List.set_cons_zero, List.set_cons_succ, i64_w, i32_w]; rfl)
         refine pq_ 30 8 ?_ backreachlaw11_SpanMeets.M74 HT_.out ?_ ?_ ?_ ?_
         rotate_left; focus (intro w'; go_simp; with_reducible rfl)
         rotate_left; focus (simp only [Act.put, List.setIfInBounds_toArray, List.set_cons_zero, List.set_cons_succ, i64_w, i32_w]; rfl)
         refine done_ (done_of HT_.out (by kernel_rfl)) ?_
         try go_wp2
         go_ret
         exact ⟨by first | rfl | (simp [errW_none, errW_some] <;> rfl) | (simp [*, errW_none, errW_some] <;> rfl), by repeat (first | (with_reducible first | exact HB.out | apply below_alloc | apply pw_below_drewN | apply below_drew1 | refine below_set ?_ GE192.out | refine below_set ?_ GE193.out | refine below_set ?_ GE198.out | refine below_set ?_ GE202.out | refine below_set ?_ GE205.out) | exact HB.out)⟩
        ·
         replace c88 := Bool.eq_false_iff.mpr c88
         subst c88
         have H1 : (some false) = some r := by rw [if_neg (show ¬ (false = true) by decide)] at H; exact H
         clear H
         have H := H1
         clear H1
         exact absurd ((Option.some.inj H).trans hr_.out) (by decide)
       ·
        replace c85 := Bool.eq_false_iff.mpr c85
        subst c85
        have H1 : (some false) = some r := by rw [if_neg (show ¬ (false = true) by decide)] at H; exact H
        clear H
        have H := H1
        clear H1
        exact absurd ((Option.some.inj H).trans hr_.out) (by decide)
      ·
       replace c83 := Bool.eq_false_iff.mpr c83
       subst c83
       have H1 : ((span_Right.f a0 a1_0 a1_1).bind fun bt226 => ((span_Has.f a0 t203 t204 bt226.1).bind fun t228 => (if t228 = true then ((span_Right.f a0 a2_0 a2_1).bind fun bt229 => ((span_Has.f a0 t203 t204 bt229.2).bind fun t231 => (some t231))) else (some false)))) = some r := by rw [if_neg (show ¬ (false = true) by decide)] at H; exact H
       clear H
       have H := H1
       clear H1
       replace H := Option.bind_eq_some_iff.mp H
       obtain ⟨⟨t226, t227⟩, A970, H⟩ := H
       replace H : ((span_Has.f a0 t203 t204 t226).bind fun t228 => (if t228 = true then ((span_Right.f a0 a2_0 a2_1).bind fun bt229 => ((span_Has.f a0 t203 t204 bt229.2).bind fun t231 => (some t231))) else (some false))) = some r := H
       have A97 := Aside0.mk A970
       clear A970
       replace H := Option.bind_eq_some_iff.mp H
       obtain ⟨t228, A980, H⟩ := H
       replace H : (if t228 = true then ((span_Right.f a0 a2_0 a2_1).bind fun bt229 => ((span_Has.f a0 t203 t204 bt229.2).bind fun t231 => (some t231))) else (some false)) = some r := H
       have A98 := Aside0.mk A980
       clear A980
       by_cases c99 : t228 = true
       ·
        subst c99
        have H1 : ((span_Right.f a0 a2_0 a2_1).bind fun bt229 => ((span_Has.f a0 t203 t204 bt229.2).bind fun t231 => (some t231))) = some r := by rw [if_pos rfl] at H; exact H
        clear H
        have H := H1
        clear H1
        replace H := Option.bind_eq_some_iff.mp H
        obtain ⟨⟨t229, t230⟩, A1000, H⟩ := H
        replace H : ((span_Has.f a0 t203 t204 t230).bind fun t231 => (some t231)) = some r := H
        have A100 := Aside0.mk A1000
        clear A1000
        replace H := Option.bind_eq_some_iff.mp H
        obtain ⟨t231, A1010, H⟩ := H
        replace H : (some t231) = some r := H
        have A101 := Aside0.mk A1010
        clear A1010
        obtain rfl := Option.some.inj H
        try go_wp2
        have n0_ := Aside0.mk (blk_drew BK192.out)
        have n1_ := Aside0.mk (blk_drew BK193.out)
        have n2_ := Aside0.mk (blk_drew BK198.out)
        have n3_ := Aside0.mk (blk_drew BK202.out)
        have n4_ := Aside0.mk (blk_drew BK205.out)
        have n5_ := Aside0.mk (below_drew1 HB.out)
        clear BK192 BK193 BK198 BK202 BK205 HB
        have BK192 := n0_
        have BK193 := n1_
        have BK198 := n2_
        have BK202 := n3_
        have BK205 := n4_
        have HB := n5_
        clear n0_ n1_ n2_ n3_ n4_ n5_
        refine start_ (n := 31) (S := fun w' => w'.cell? ⟨gb205, 0, none⟩ = some (.int .u64 t203) ∧ w'.cell? ⟨gb205, 1, none⟩ = some (.int .u64 t204) ∧ w'.cell? ⟨gb192, 0, none⟩ = some (.int .u64 a1_0) ∧ w'.cell? ⟨gb192, 1, none⟩ = some (.int .u64 a1_1) ∧ w'.cell? ⟨gb193, 0, none⟩ = some (.int .u64 a2_0) ∧ w'.cell? ⟨gb193, 1, none⟩ = some (.int .u64 a2_1)) (ds := []) backreachlaw11_SpanMeets.M0 (by kernel_rfl) rfl rfl ⟨(blk_cell BK205.out 0).trans rfl, (blk_cell BK205.out 1).trans rfl, (blk_cell BK192.out 0).trans rfl, (blk_cell BK192.out 1).trans rfl, (blk_cell BK193.out 0).trans rfl, (blk_cell BK193.out 1).trans rfl⟩ (fun hHeld => ?_); refine with_tabW backreachlaw11_SpanMeets.tab9 backreachlaw11_SpanMeets.bits9 (fun HT_ HW_ => ?_)
        generalize wc.drew = w102 at BK192 BK193 BK198 BK202 BK205 HB hHeld ⊢
        refine pq_ 0 74 ?_ backreachlaw11_SpanMeets.M3 HT_.out ?_ ?_ ?_ ?_
        rotate_left; focus (intro w'; go_simp; with_reducible rfl)
        rotate_left; focus (simp only [Act.put, List.setIfInBounds_toArray, List.set_cons_zero, List.set_cons_succ, i64_w, i32_w]; rfl)
        refine pq_ 1 75 ?_ backreachlaw11_SpanMeets.M9 HT_.out ?_ ?_ ?_ ?_
        rotate_left; focus (intro w'; go_simp; with_reducible rfl)
        rotate_left; focus (simp only [Act.put, List.setIfInBounds_toArray, List.set_cons_zero, List.set_cons_succ, i64_w, i32_w]; rfl)
        refine pq_ 2 76 ?_ backreachlaw11_SpanMeets.M11 HT_.out ?_ ?_ ?_ ?_
        rotate_left; focus (intro w'; go_simp; with_reducible rfl)
        rotate_left; focus (simp only [Act.put, List.setIfInBounds_toArray, List.set_cons_zero, List.set_cons_succ, i64_w, i32_w]; rfl)
        refine pq_ 3 77 ?_ backreachlaw11_SpanMeets.M15 HT_.out ?_ ?_ ?_ ?_
        rotate_left; focus (intro w'; go_simp; with_reducible rfl)
        rotate_left; focus (simp only [Act.put, List.setIfInBounds_toArray, List.set_cons_zero, List.set_cons_succ, i64_w, i32_w]; rfl)
        refine pq_ 4 78 ?_ backreachlaw11_SpanMeets.M17 HT_.out ?_ ?_ ?_ ?_
        rotate_left; focus (intro w'; go_simp; with_reducible rfl)
        rotate_left; focus (simp only [Act.put, List.setIfInBounds_toArray, List.set_cons_zero, List.set_cons_succ, i64_w, i32_w]; rfl)
        refine pq_ 5 79 ?_ backreachlaw11_SpanMeets.M19 HT_.out ?_ ?_ ?_ ?_
        rotate_left; focus (intro w'; go_simp; with_reducible rfl)
        rotate_left; focus (simp only [Act.put, List.setIfInBounds_toArray, List.set_cons_zero, List.set_cons_succ, i64_w, i32_w]; rfl)
        refine pq_ 6 80 ?_ backreachlaw11_SpanMeets.M21 HT_.out ?_ ?_ ?_ ?_
        rotate_left; focus (intro w'; go_simp; with_reducible rfl)
        rotate_left; focus (simp only [Act.put, List.setIfInBounds_toArray, List.set_cons_zero, List.set_cons_succ, i64_w, i32_w]; rfl)
        refine pure_ (i := 7) (N := some 81) (v := undef) (a' := ?_) backreachlaw11_SpanMeets.M24 rfl rfl (any_of HT_.out (by kernel_rfl)) (fun _ _ _ h => h) (Or.inr ⟨by rfl, rfl⟩) ?_ ?_
        rotate_left; focus (simp only [Act.put, List.setIfInBounds_toArray, List.set_cons_zero, List.set_cons_succ, i64_w, i32_w]; rfl)
        refine pure_ (i := 8) (N := some 82) (v := undef) (a' := ?_) backreachlaw11_SpanMeets.M28 rfl rfl (any_of HT_.out (by kernel_rfl)) (fun _ _ _ h => h) (Or.inr ⟨by rfl, rfl⟩) ?_ ?_
        rotate_left; focus (simp only [Act.put, List.setIfInBounds_toArray, List.set_cons_zero, List.set_cons_succ, i64_w, i32_w]; rfl)
        refine pure_ (i := 9) (N := some 83) (v := undef) (a' := ?_) backreachlaw11_SpanMeets.M32 rfl rfl (any_of HT_.out (by kernel_rfl)) (fun _ _ _ h => h) (Or.inr ⟨by rfl, rfl⟩) ?_ ?_
        rotate_left; focus (simp only [Act.put, List.setIfInBounds_toArray, List.set_cons_zero, List.set_cons_succ, i64_w, i32_w]; rfl)
        refine pure_ (i := 10) (N := some 84) (v := undef) (a' := ?_) backreachlaw11_SpanMeets.M34 rfl rfl (any_of HT_.out (by kernel_rfl)) (fun _ _ _ h => h) (Or.inr ⟨by rfl, rfl⟩) ?_ ?_
        rotate_left; focus (simp only [Act.put, List.setIfInBounds_toArray, List.set_cons_zero, List.set_cons_succ, i64_w, i32_w]; rfl)
        refine pq_ 11 85 ?_ backreachlaw11_SpanMeets.M36 HT_.out ?_ ?_ ?_ ?_
        rotate_left; focus (intro w'; go_simp; with_reducible rfl)
        rotate_left; focus (simp only [Act.put, List.setIfInBounds_toArray, List.set_cons_zero, List.set_cons_succ, i64_w, i32_w]; rfl)
        refine pq_ 12 86 ?_ backreachlaw11_SpanMeets.M38 HT_.out ?_ ?_ ?_ ?_
        rotate_left; focus (intro w'; go_simp; with_reducible rfl)
        rotate_left; focus (simp only [Act.put, List.setIfInBounds_toArray, List.set_cons_zero, List.set_cons_succ, i64_w, i32_w]; rfl)
        refine pq_ 13 87 ?_ backreachlaw11_SpanMeets.M40 HT_.out ?_ ?_ ?_ ?_
        rotate_left; focus (intro w'; go_simp; with_reducible rfl)
        rotate_left; focus (simp only [Act.put, List.setIfInBounds_toArray, List.set_cons_zero, List.set_cons_succ, i64_w, i32_w]; rfl)
        refine pq_ 15 89 ?_ backreachlaw11_SpanMeets.M42 HT_.out ?_ ?_ ?_ ?_
        rotate_left; focus (intro w'; go_simp; with_reducible rfl)
        rotate_left; focus (simp only [Act.put, List.setIfInBounds_toArray, List.set_cons_zero, List.set_cons_succ, i64_w, i32_w]; rfl)
        refine take_ (i := 14) (N := some 88) (v := ?_) (a' := ?_) backreachlaw11_SpanMeets.M44 rfl rfl (take_ofW HT_.out HW_.out (by kernel_rfl)) (fun _ _ _ h => h) (Or.inl ⟨by rfl, ?_⟩) hHeld ?_ ?_
        rotate_left; focus (rintro w' ⟨s0, s1, s2, s3, s4, s5⟩; go_simp; with_reducible rfl)
        rotate_left; focus (simp only [Act.put, List.setIfInBounds_toArray, List.set_cons_zero, List.set_cons_succ, i64_w, i32_w]; rfl)
        refine take_ (i := 16) (N := some 90) (v := ?_) (a' := ?_) backreachlaw11_SpanMeets.M46 rfl rfl (take_ofW HT_.out HW_.out (by kernel_rfl)) (fun _ _ _ h => h) (Or.inl ⟨by rfl, ?_⟩) hHeld ?_ ?_
        rotate_left; focus (rintro w' ⟨s0, s1, s2, s3, s4, s5⟩; go_simp; with_reducible rfl)
        rotate_left; focus (simp only [Act.put, List.setIfInBounds_toArray, List.set_cons_zero, List.set_cons_succ, i64_w, i32_w]; rfl)
        refine one_ (i := 17) (N := some 91) backreachlaw11_SpanMeets.M48 rfl rfl (one_of HT_.out (by kernel_rfl)) (by decide) (fun K hK => ?_)
        refine goes_ Try.func14 (by kernel_rfl) rfl #[.int .i64 a0, .agg #[.int .u64 a1_0, .int .u64 a1_1]] (by rfl) rfl rfl (by (try simp only [List.map_toArray, List.map_cons, List.map_nil]); first | done | rfl | (simp only [List.length_drop, List.length_take]; rfl)) ?_
        with_reducible refine (span_Right.calls a0 a1_0 a1_1 t226 t227 _ A97.out).mono ?_
        rintro e w103 ⟨rfl, hb⟩
        refine ⟨_, rfl, ?_⟩
        have n0_ := Aside0.mk (bbq BK192 hb)
        have n1_ := Aside0.mk (bbq BK193 hb)
        have n2_ := Aside0.mk (bbq BK198 hb)
        have n3_ := Aside0.mk (bbq BK202 hb)
        have n4_ := Aside0.mk (bbq BK205 hb)
        have n5_ := Aside0.mk (below_step (hbq HB) hb)
        clear BK192 BK193 BK198 BK202 BK205 HB
        have BK192 := n0_
        have BK193 := n1_
        have BK198 := n2_
        have BK202 := n3_
        have BK205 := n4_
        have HB := n5_
        clear n0_ n1_ n2_ n3_ n4_ n5_
        (try clear hb)
        (try clear hb2)
        (try clear hk)
        (try clear hi)
        refine hK.out _ _ ⟨(blk_cell BK205.out 0).trans rfl, (blk_cell BK205.out 1).trans rfl, (blk_cell BK192.out 0).trans rfl, (blk_cell BK192.out 1).trans rfl, (blk_cell BK193.out 0).trans rfl, (blk_cell BK193.out 1).trans rfl⟩ (fun hHeld => ?_)
        clear hK K
        refine norm_ (a' := ?_) ?_ ?_
        rotate_left
        ·
         show Act.put _ (some 91) _ = _
         simp only [Act.put, List.setIfInBounds_toArray, List.set_cons_zero, List.set_cons_succ, i64_w, i32_w]
         rfl
        refine pq_ 18 92 ?_ backreachlaw11_SpanMeets.M50 HT_.out ?_ ?_ ?_ ?_
        rotate_left; focus (intro w'; go_simp; with_reducible rfl)
        rotate_left; focus (simp only [Act.put, List.setIfInBounds_toArray, List.set_cons_zero, List.set_cons_succ, i64_w, i32_w]; rfl)
        refine one_ (i := 19) (N := some 93) backreachlaw11_SpanMeets.M52 rfl rfl (one_of HT_.out (by kernel_rfl)) (by decide) (fun K hK => ?_)
        refine goes_ Try.func9 (by kernel_rfl) rfl #[.int .i64 a0, .agg #[.int .u64 t203, .int .u64 t204], .int .u64 t226] (by rfl) rfl rfl (by (try simp only [List.map_toArray, List.map_cons, List.map_nil]); first | done | rfl | (simp only [List.length_drop, List.length_take]; rfl)) ?_
        with_reducible refine (span_Has.calls a0 t203 t204 t226 true _ A98.out).mono ?_
        rintro e w104 ⟨rfl, hb⟩
        refine ⟨_, rfl, ?_⟩
        have n0_ := Aside0.mk (bbq BK192 hb)
        have n1_ := Aside0.mk (bbq BK193 hb)
        have n2_ := Aside0.mk (bbq BK198 hb)
        have n3_ := Aside0.mk (bbq BK202 hb)
        have n4_ := Aside0.mk (bbq BK205 hb)
        have n5_ := Aside0.mk (below_step (hbq HB) hb)
        clear BK192 BK193 BK198 BK202 BK205 HB
        have BK192 := n0_
        have BK193 := n1_
        have BK198 := n2_
        have BK202 := n3_
        have BK205 := n4_
        have HB := n5_
        clear n0_ n1_ n2_ n3_ n4_ n5_
        (try clear hb)
        (try clear hb2)
        (try clear hk)
        (try clear hi)
        refine hK.out _ _ ⟨(blk_cell BK205.out 0).trans rfl, (blk_cell BK205.out 1).trans rfl, (blk_cell BK192.out 0).trans rfl, (blk_cell BK192.out 1).trans rfl, (blk_cell BK193.out 0).trans rfl, (blk_cell BK193.out 1).trans rfl⟩ (fun hHeld => ?_)
        clear hK K
        refine norm_ (a' := ?_) ?_ ?_
        rotate_left
        ·
         show Act.put _ (some 93) _ = _
         simp only [Act.put, List.setIfInBounds_toArray, List.set_cons_zero, List.set_cons_succ, i64_w, i32_w]
         rfl
        refine pq_ 20 94 ?_ backreachlaw11_SpanMeets.M54 HT_.out ?_ ?_ ?_ ?_
        rotate_left; focus (intro w'; go_simp; with_reducible rfl)
        rotate_left; focus (simp only [Act.put, List.setIfInBounds_toArray, List.set_cons_zero, List.set_cons_succ, i64_w, i32_w]; rfl)
        refine pq_ 21 95 ?_ backreachlaw11_SpanMeets.M56 HT_.out ?_ ?_ ?_ ?_
        rotate_left; focus (intro w'; go_simp; with_reducible rfl)
        rotate_left; focus (simp only [Act.put, List.setIfInBounds_toArray, List.set_cons_zero, List.set_cons_succ, i64_w, i32_w]; rfl)
        refine pq_ 22 96 ?_ backreachlaw11_SpanMeets.M58 HT_.out ?_ ?_ ?_ ?_
        rotate_left; focus (intro w'; go_simp; with_reducible rfl)
        rotate_left; focus (simp only [Act.put, List.setIfInBounds_toArray, List.set_cons_zero, List.set_cons_succ, i64_w, i32_w]; rfl)
        refine pq_ 24 98 ?_ backreachlaw11_SpanMeets.M60 HT_.out ?_ ?_ ?_ ?_
        rotate_left; focus (intro w'; go_simp; with_reducible rfl)
        rotate_left; focus (simp only [Act.put, List.setIfInBounds_toArray, List.set_cons_zero, List.set_cons_succ, i64_w, i32_w]; rfl)
        refine take_ (i := 23) (N := some 97) (v := ?_) (a' := ?_) backreachlaw11_SpanMeets.M63 rfl rfl (take_ofW HT_.out HW_.out (by kernel_rfl)) (fun _ _ _ h => h) (Or.inl ⟨by rfl, ?_⟩) hHeld ?_ ?_
        rotate_left; focus (rintro w' ⟨s0, s1, s2, s3, s4, s5⟩; go_simp; with_reducible rfl)
        rotate_left; focus (simp only [Act.put, List.setIfInBounds_toArray, List.set_cons_zero, List.set_cons_succ, i64_w, i32_w]; rfl)
        refine take_ (i := 25) (N := some 99) (v := ?_) (a' := ?_) backreachlaw11_SpanMeets.M65 rfl rfl (take_ofW HT_.out HW_.out (by kernel_rfl)) (fun _ _ _ h => h) (Or.inl ⟨by rfl, ?_⟩) hHeld ?_ ?_
        rotate_left; focus (rintro w' ⟨s0, s1, s2, s3, s4, s5⟩; go_simp; with_reducible rfl)
        rotate_left; focus (simp only [Act.put, List.setIfInBounds_toArray, List.set_cons_zero, List.set_cons_succ, i64_w, i32_w]; rfl)
        refine one_ (i := 26) (N := some 100) backreachlaw11_SpanMeets.M67 rfl rfl (one_of HT_.out (by kernel_rfl)) (by decide) (fun K hK => ?_)
        refine goes_ Try.func14 (by kernel_rfl) rfl #[.int .i64 a0, .agg #[.int .u64 a2_0, .int .u64 a2_1]] (by rfl) rfl rfl (by (try simp only [List.map_toArray, List.map_cons, List.map_nil]); first | done | rfl | (simp only [List.length_drop, List.length_take]; rfl)) ?_
        with_reducible refine (span_Right.calls a0 a2_0 a2_1 t229 t230 _ A100.out).mono ?_
        rintro e w105 ⟨rfl, hb⟩
        refine ⟨_, rfl, ?_⟩
        have n0_ := Aside0.mk (bbq BK192 hb)
        have n1_ := Aside0.mk (bbq BK193 hb)
        have n2_ := Aside0.mk (bbq BK198 hb)
        have n3_ := Aside0.mk (bbq BK202 hb)
        have n4_ := Aside0.mk (bbq BK205 hb)
        have n5_ := Aside0.mk (below_step (hbq HB) hb)
        clear BK192 BK193 BK198 BK202 BK205 HB
        have BK192 := n0_
        have BK193 := n1_
        have BK198 := n2_
        have BK202 := n3_
        have BK205 := n4_
        have HB := n5_
        clear n0_ n1_ n2_ n3_ n4_ n5_
        (try clear hb)
        (try clear hb2)
        (try clear hk)
        (try clear hi)
        refine hK.out _ _ ⟨(blk_cell BK205.out 0).trans rfl, (blk_cell BK205.out 1).trans rfl, (blk_cell BK192.out 0).trans rfl, (blk_cell BK192.out 1).trans rfl, (blk_cell BK193.out 0).trans rfl, (blk_cell BK193.out 1).trans rfl⟩ (fun hHeld => ?_)
        clear hK K
        refine norm_ (a' := ?_) ?_ ?_
        rotate_left
        ·
         show Act.put _ (some 100) _ = _
         simp only [Act.put, List.setIfInBounds_toArray, List.set_cons_zero, List.set_cons_succ, i64_w, i32_w]
         rfl
        refine pq_ 27 101 ?_ backreachlaw11_SpanMeets.M69 HT_.out ?_ ?_ ?_ ?_
        rotate_left; focus (intro w'; go_simp; with_reducible rfl)
        rotate_left; focus (simp only [Act.put, List.setIfInBounds_toArray, List.set_cons_zero, List.set_cons_succ, i64_w, i32_w]; rfl)
        refine one_ (i := 28) (N := some 102) backreachlaw11_SpanMeets.M71 rfl rfl (one_of HT_.out (by kernel_rfl)) (by decide) (fun K hK => ?_)
        refine goes_ Try.func9 (by kernel_rfl) rfl #[.int .i64 a0, .agg #[.int .u64 t203, .int .u64 t204], .int .u64 t230] (by rfl) rfl rfl (by (try simp only [List.map_toArray, List.map_cons, List.map_nil]); first | done | rfl | (simp only [List.length_drop, List.length_take]; rfl)) ?_
        with_reducible refine (span_Has.calls a0 t203 t204 t230 t231 _ A101.out).mono ?_
        rintro e w106 ⟨rfl, hb⟩
        refine ⟨_, rfl, ?_⟩
        have n0_ := Aside0.mk (bbq BK192 hb)
        have n1_ := Aside0.mk (bbq BK193 hb)
        have n2_ := Aside0.mk (bbq BK198 hb)
        have n3_ := Aside0.mk (bbq BK202 hb)
        have n4_ := Aside0.mk (bbq BK205 hb)
        have n5_ := Aside0.mk (below_step (hbq HB) hb)
        clear BK192 BK193 BK198 BK202 BK205 HB
        have BK192 := n0_
        have BK193 := n1_
        have BK198 := n2_
        have BK202 := n3_
        have BK205 := n4_
        have HB := n5_
        clear n0_ n1_ n2_ n3_ n4_ n5_
        (try clear hb)
        (try clear hb2)
        (try clear hk)
        (try clear hi)
        refine hK.out _ _ ⟨(blk_cell BK205.out 0).trans rfl, (blk_cell BK205.out 1).trans rfl, (blk_cell BK192.out 0).trans rfl, (blk_cell BK192.out 1).trans rfl, (blk_cell BK193.out 0).trans rfl, (blk_cell BK193.out 1).trans rfl⟩ (fun hHeld => ?_)
        clear hK K
        refine norm_ (a' := ?_) ?_ ?_
        rotate_left
        ·
         show Act.put _ (some 102) _ = _
         simp only [Act.put, List.setIfInBounds_toArray, List.set_cons_zero, List.set_cons_succ, i64_w, i32_w]
         rfl
        refine pq_ 29 103 ?_ backreachlaw11_SpanMeets.M73 HT_.out ?_ ?_ ?_ ?_
        rotate_left; focus (intro w'; go_simp; with_reducible rfl)
        rotate_left; focus (simp only [Act.put, List.setIfInBounds_toArray, List.set_cons_zero, List.set_cons_succ, i64_w, i32_w]; rfl)
        refine pq_ 30 8 ?_ backreachlaw11_SpanMeets.M74 HT_.out ?_ ?_ ?_ ?_
        rotate_left; focus (intro w'; go_simp; with_reducible rfl)
        rotate_left; focus (simp only [Act.put, List.setIfInBounds_toArray, List.set_cons_zero, List.set_cons_succ, i64_w, i32_w]; rfl)
        refine done_ (done_of HT_.out (by kernel_rfl)) ?_
        try go_wp2
        go_ret
        exact ⟨by first | rfl | (simp [errW_none, errW_some] <;> rfl) | (simp [*, errW_none, errW_some] <;> rfl), by repeat (first | (with_reducible first | exact HB.out | apply below_alloc | apply pw_below_drewN | apply below_drew1 | refine below_set ?_ GE192.out | refine below_set ?_ GE193.out | refine below_set ?_ GE198.out | refine below_set ?_ GE202.out | refine below_set ?_ GE205.out) | exact HB.out)⟩
       ·
        replace c99 := Bool.eq_false_iff.mpr c99
        subst c99
        have H1 : (some false) = some r := by rw [if_neg (show ¬ (false = true) by decide)] at H; exact H
        clear H
        have H := H1
        clear H1
        exact absurd ((Option.some.inj H).trans hr_.out) (by decide)
 ·
  replace c6 := Bool.eq_false_iff.mpr c6
  subst c6
  have H1 : (some false) = some r := by rw [if_neg (show ¬ (false = true) by decide)] at H; exact H
  clear H
  have H := H1
  clear H1
  exact absurd ((Option.some.inj H).trans hr_.out) (by decide)


end Go.Proofs.Ytidabafobpbniaa.P
