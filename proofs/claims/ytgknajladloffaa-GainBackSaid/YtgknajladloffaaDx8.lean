-- by a program of this session (wip/myprint.py)
import Derived.Test.YtgknajladloffaaQx0
import Derived.Test.YtgknajladloffaaDx1
import Derived.Test.YtgknajladloffaaDx5
import Derived.Test.YtgknajladloffaaDx7
namespace Go.Proofs.Ytgknajladloffaa.Q
open Go.RowKit Go.Proofs.YtgknajladloffaaW.PrintWords Go.Proofs.YtgknajladloffaaW.PrintLast Go.Proofs.YtgknajladloffaaW.PrintMore
attribute [local go_sem] max2_int min2_int max_two min_two max_three min_three max_four min_four   -- for this text's walks alone
set_option linter.unusedVariables false
set_option linter.unusedSimpArgs false

/-! ### gain_Put: function 33 -/
mutual
def gain_Put.j0 : Nat → List Int → List Int → Bool → Bool → Int → Int → List Int → Int → Int → List Int → Option (Int × Int × List Int × Int)
 | 0, _, _, _, _, _, _, _, _, _, _ => none
 | k + 1, x1, x2, x3, x33, x208000, x208001, x208002, x216000, x216001, x216002 => if x33 = true then (some (x216000, x216001, x216002, 1)) else (gain_Put.l0 k x1 x2 x3 0 x216000 x216001 x216002 x208000 x208001 x208002)
def gain_Put.l0 : Nat → List Int → List Int → Bool → Int → Int → Int → List Int → Int → Int → List Int → Option (Int × Int × List Int × Int)
 | 0, _, _, _, _, _, _, _, _, _, _ => none
 | k + 1, x1, x2, x3, x36, x216000, x216001, x216002, x219000, x219001, x219002 => if x36 < 5 then (if x3 = true then (gain_Put.j2 k x1 x2 x3 x36 0 x36 x216000 x216001 x216002 x219000 x219001 x219002) else (if 0 ≤ x36 then (if x36 < (x2.length : Int) then (gain_Put.j2 k x1 x2 x3 x36 (rd x2 x36) x36 x216000 x216001 x216002 x219000 x219001 x219002) else (none)) else (none))) else (some (x219000, x219001, x219002, 0))
def gain_Put.j2 : Nat → List Int → List Int → Bool → Int → Int → Int → Int → Int → List Int → Int → Int → List Int → Option (Int × Int × List Int × Int)
 | 0, _, _, _, _, _, _, _, _, _, _, _, _ => none
 | k + 1, x1, x2, x3, x13, x14, x36, x216000, x216001, x216002, x219000, x219001, x219002 => if 0 ≤ x13 then (if x13 < (x1.length : Int) then ((gain_put.f k x219000 x219001 x219002 (rd x1 x13) x14 x3).bind fun bt221 => (if bt221.2.2.2 = 0 then (gain_Put.l0 k x1 x2 x3 (wrap64 (x36 + 1)) x216000 x216001 x216002 bt221.1 bt221.2.1 bt221.2.2.1) else (some (x216000, x216001, x216002, bt221.2.2.2)))) else (none)) else (none)
end
def gain_Put.f (k : Nat) (a0_0 : Int) (a0_1 : Int) (l0_2 : List Int) (l1 : List Int) (l2 : List Int) (a3 : Bool) : Option (Int × Int × List Int × Int) := (coder_Put.f k a0_0 a0_1 l0_2 0 1 0).bind fun bt209 => ((gain_Right.f k l1).bind fun t216 => (if t216 = true then (if a3 = true then (gain_Put.j0 k l1 l2 a3 false a0_0 a0_1 l0_2 bt209.1 bt209.2.1 bt209.2.2.1) else ((gain_Right.f k l2).bind fun t217 => (gain_Put.j0 k l1 l2 a3 (!t217) a0_0 a0_1 l0_2 bt209.1 bt209.2.1 bt209.2.2.1))) else (gain_Put.j0 k l1 l2 a3 true a0_0 a0_1 l0_2 bt209.1 bt209.2.1 bt209.2.2.1)))
theorem gain_Put.mono_l : ∀ k, (∀ y0 y1 y2 y3 y4 y5 y6 y7 y8 y9, LeO (gain_Put.j0 k y0 y1 y2 y3 y4 y5 y6 y7 y8 y9) (gain_Put.j0 (k + 1) y0 y1 y2 y3 y4 y5 y6 y7 y8 y9)) ∧ (∀ y0 y1 y2 y3 y4 y5 y6 y7 y8 y9, LeO (gain_Put.l0 k y0 y1 y2 y3 y4 y5 y6 y7 y8 y9) (gain_Put.l0 (k + 1) y0 y1 y2 y3 y4 y5 y6 y7 y8 y9)) ∧ (∀ y0 y1 y2 y3 y4 y5 y6 y7 y8 y9 y10 y11, LeO (gain_Put.j2 k y0 y1 y2 y3 y4 y5 y6 y7 y8 y9 y10 y11) (gain_Put.j2 (k + 1) y0 y1 y2 y3 y4 y5 y6 y7 y8 y9 y10 y11))
 | 0 => ⟨fun _ _ _ _ _ _ _ _ _ _ r h => by simp [gain_Put.j0] at h, fun _ _ _ _ _ _ _ _ _ _ r h => by simp [gain_Put.l0] at h, fun _ _ _ _ _ _ _ _ _ _ _ _ r h => by simp [gain_Put.j2] at h⟩
 | k + 1 => by
  obtain ⟨ih0, ih1, ih2⟩ := gain_Put.mono_l k; refine ⟨?_, ?_, ?_⟩
  ·intro y0 y1 y2 y3 y4 y5 y6 y7 y8 y9; unfold gain_Put.j0
   repeat' first
   | (with_reducible exact ih0 _ _ _ _ _ _ _ _ _ _)
   | (with_reducible exact ih1 _ _ _ _ _ _ _ _ _ _)
   | (with_reducible exact ih2 _ _ _ _ _ _ _ _ _ _ _ _)
   | (with_reducible exact coder_Put.mono _ _ _ _ _ _ _)
   | (with_reducible exact gain_Right.mono _ _)
   | (with_reducible exact gain_put.mono _ _ _ _ _ _ _)
   | (with_reducible exact LeO.refl _)
   | (with_reducible exact LeO.none _)
   | (with_reducible refine LeO.ite ?_ ?_)
   | (with_reducible refine LeO.bind ?_ (fun _ => ?_))
   | exact ih0 _ _ _ _ _ _ _ _ _ _
   | exact ih1 _ _ _ _ _ _ _ _ _ _
   | exact ih2 _ _ _ _ _ _ _ _ _ _ _ _
   | exact coder_Put.mono _ _ _ _ _ _ _
   | exact gain_Right.mono _ _
   | exact gain_put.mono _ _ _ _ _ _ _
   | exact LeO.none _
   | refine LeO.ite ?_ ?_
   | refine LeO.bind ?_ (fun _ => ?_)
  ·intro y0 y1 y2 y3 y4 y5 y6 y7 y8 y9; unfold gain_Put.l0
   repeat' first
   | (with_reducible exact ih0 _ _ _ _ _ _ _ _ _ _)
   | (with_reducible exact ih1 _ _ _ _ _ _ _ _ _ _)
   | (with_reducible exact ih2 _ _ _ _ _ _ _ _ _ _ _ _)
   | (with_reducible exact coder_Put.mono _ _ _ _ _ _ _)
   | (with_reducible exact gain_Right.mono _ _)
   | (with_reducible exact gain_put.mono _ _ _ _ _ _ _)
   | (with_reducible exact LeO.refl _)
   | (with_reducible exact LeO.none _)
   | (with_reducible refine LeO.ite ?_ ?_)
   | (with_reducible refine LeO.bind ?_ (fun _ => ?_))
   | exact ih0 _ _ _ _ _ _ _ _ _ _
   | exact ih1 _ _ _ _ _ _ _ _ _ _
   | exact ih2 _ _ _ _ _ _ _ _ _ _ _ _
   | exact coder_Put.mono _ _ _ _ _ _ _
   | exact gain_Right.mono _ _
   | exact gain_put.mono _ _ _ _ _ _ _
   | exact LeO.none _
   | refine LeO.ite ?_ ?_
   | refine LeO.bind ?_ (fun _ => ?_)
  ·intro y0 y1 y2 y3 y4 y5 y6 y7 y8 y9 y10 y11; unfold gain_Put.j2
   repeat' first
   | (with_reducible exact ih0 _ _ _ _ _ _ _ _ _ _)
   | (with_reducible exact ih1 _ _ _ _ _ _ _ _ _ _)
   | (with_reducible exact ih2 _ _ _ _ _ _ _ _ _ _ _ _)
   | (with_reducible exact coder_Put.mono _ _ _ _ _ _ _)
   | (with_reducible exact gain_Right.mono _ _)
   | (with_reducible exact gain_put.mono _ _ _ _ _ _ _)
   | (with_reducible exact LeO.refl _)
   | (with_reducible exact LeO.none _)
   | (with_reducible refine LeO.ite ?_ ?_)
   | (with_reducible refine LeO.bind ?_ (fun _ => ?_))
   | exact ih0 _ _ _ _ _ _ _ _ _ _
   | exact ih1 _ _ _ _ _ _ _ _ _ _
   | exact ih2 _ _ _ _ _ _ _ _ _ _ _ _
   | exact coder_Put.mono _ _ _ _ _ _ _
   | exact gain_Right.mono _ _
   | exact gain_put.mono _ _ _ _ _ _ _
   | exact LeO.none _
   | refine LeO.ite ?_ ?_
   | refine LeO.bind ?_ (fun _ => ?_)
theorem gain_Put.mono : ∀ a0 a1 a2 a3 a4 a5 k, LeO (gain_Put.f k a0 a1 a2 a3 a4 a5) (gain_Put.f (k + 1) a0 a1 a2 a3 a4 a5) := by
 intro a0 a1 a2 a3 a4 a5 k; obtain ⟨ih0, ih1, ih2⟩ := gain_Put.mono_l k; unfold gain_Put.f
 repeat' first
   | (with_reducible exact ih0 _ _ _ _ _ _ _ _ _ _)
   | (with_reducible exact ih1 _ _ _ _ _ _ _ _ _ _)
   | (with_reducible exact ih2 _ _ _ _ _ _ _ _ _ _ _ _)
   | (with_reducible exact coder_Put.mono _ _ _ _ _ _ _)
   | (with_reducible exact gain_Right.mono _ _)
   | (with_reducible exact gain_put.mono _ _ _ _ _ _ _)
   | (with_reducible exact LeO.refl _)
   | (with_reducible exact LeO.none _)
   | (with_reducible refine LeO.ite ?_ ?_)
   | (with_reducible refine LeO.bind ?_ (fun _ => ?_))
   | exact ih0 _ _ _ _ _ _ _ _ _ _
   | exact ih1 _ _ _ _ _ _ _ _ _ _
   | exact ih2 _ _ _ _ _ _ _ _ _ _ _ _
   | exact coder_Put.mono _ _ _ _ _ _ _
   | exact gain_Right.mono _ _
   | exact gain_put.mono _ _ _ _ _ _ _
   | exact LeO.none _
   | refine LeO.ite ?_ ?_
   | refine LeO.bind ?_ (fun _ => ?_)
end Go.Proofs.Ytgknajladloffaa.Q
