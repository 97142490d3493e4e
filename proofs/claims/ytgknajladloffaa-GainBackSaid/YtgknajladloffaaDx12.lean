-- by a program of this session (wip/myprint.py)
import Derived.Test.YtgknajladloffaaQx0
import Derived.Test.YtgknajladloffaaDx1
import Derived.Test.YtgknajladloffaaDx9
import Derived.Test.YtgknajladloffaaDx11
namespace Go.Proofs.Ytgknajladloffaa.Q
open Go.RowKit Go.Proofs.YtgknajladloffaaW.PrintWords Go.Proofs.YtgknajladloffaaW.PrintLast Go.Proofs.YtgknajladloffaaW.PrintMore
attribute [local go_sem] max2_int min2_int max_two min_two max_three min_three max_four min_four   -- for this text's walks alone
set_option linter.unusedVariables false
set_option linter.unusedSimpArgs false

/-! ### gain_Take: function 36 -/
mutual
def gain_Take.j0 : Nat → List Int → Bool → Bool → Int → Int → List Int → Int → Option (Int × Int × List Int × Int × List Int × Int)
 | 0, _, _, _, _, _, _, _ => none
 | k + 1, x1, x2, x20, x340000, x340001, x340002, x340003 => if x20 = true then ((coder_Take.f k x340000 x340001 x340002 x340003 0 1 1).bind fun bt342 => (some (bt342.1, bt342.2.1, bt342.2.2.1, bt342.2.2.2.1, ([] : List Int), 1))) else (gain_Take.l0 k x1 x2 ([] : List Int) 0 x340000 x340001 x340002 x340003)
def gain_Take.l0 : Nat → List Int → Bool → List Int → Int → Int → Int → List Int → Int → Option (Int × Int × List Int × Int × List Int × Int)
 | 0, _, _, _, _, _, _, _, _ => none
 | k + 1, x1, x2, x9, x27, x340000, x340001, x340002, x340003 => if x27 < 5 then (if x2 = true then ((gain_take.f k x340000 x340001 x340002 x340003 0 x2).bind fun bt349 => (if x9.length < 17592186044416 then (gain_Take.l0 k x1 x2 (x9 ++ [bt349.2.2.2.2]) (wrap64 (x27 + 1)) bt349.1 bt349.2.1 bt349.2.2.1 bt349.2.2.2.1) else (none))) else (if 0 ≤ x27 then (if x27 < (x1.length : Int) then ((gain_take.f k x340000 x340001 x340002 x340003 (rd x1 x27) x2).bind fun bt361 => (if x9.length < 17592186044416 then (gain_Take.l0 k x1 x2 (x9 ++ [bt361.2.2.2.2]) (wrap64 (x27 + 1)) bt361.1 bt361.2.1 bt361.2.2.1 bt361.2.2.2.1) else (none))) else (none)) else (none))) else (some (x340000, x340001, x340002, x340003, x9, 0))
end
def gain_Take.f (k : Nat) (a0_0 : Int) (a0_1 : Int) (l0_2 : List Int) (a0_3 : Int) (l1 : List Int) (a2 : Bool) : Option (Int × Int × List Int × Int × List Int × Int) := if a2 = true then (gain_Take.j0 k l1 a2 false a0_0 a0_1 l0_2 a0_3) else ((gain_Right.f k l1).bind fun t341 => (gain_Take.j0 k l1 a2 (!t341) a0_0 a0_1 l0_2 a0_3))
theorem gain_Take.mono_l : ∀ k, (∀ y0 y1 y2 y3 y4 y5 y6, LeO (gain_Take.j0 k y0 y1 y2 y3 y4 y5 y6) (gain_Take.j0 (k + 1) y0 y1 y2 y3 y4 y5 y6)) ∧ (∀ y0 y1 y2 y3 y4 y5 y6 y7, LeO (gain_Take.l0 k y0 y1 y2 y3 y4 y5 y6 y7) (gain_Take.l0 (k + 1) y0 y1 y2 y3 y4 y5 y6 y7))
 | 0 => ⟨fun _ _ _ _ _ _ _ r h => by simp [gain_Take.j0] at h, fun _ _ _ _ _ _ _ _ r h => by simp [gain_Take.l0] at h⟩
 | k + 1 => by
  obtain ⟨ih0, ih1⟩ := gain_Take.mono_l k; refine ⟨?_, ?_⟩
  ·intro y0 y1 y2 y3 y4 y5 y6; unfold gain_Take.j0
   repeat' first
   | (with_reducible exact ih0 _ _ _ _ _ _ _)
   | (with_reducible exact ih1 _ _ _ _ _ _ _ _)
   | (with_reducible exact coder_Take.mono _ _ _ _ _ _ _ _)
   | (with_reducible exact gain_Right.mono _ _)
   | (with_reducible exact gain_take.mono _ _ _ _ _ _ _)
   | (with_reducible exact LeO.refl _)
   | (with_reducible exact LeO.none _)
   | (with_reducible refine LeO.ite ?_ ?_)
   | (with_reducible refine LeO.bind ?_ (fun _ => ?_))
   | exact ih0 _ _ _ _ _ _ _
   | exact ih1 _ _ _ _ _ _ _ _
   | exact coder_Take.mono _ _ _ _ _ _ _ _
   | exact gain_Right.mono _ _
   | exact gain_take.mono _ _ _ _ _ _ _
   | exact LeO.none _
   | refine LeO.ite ?_ ?_
   | refine LeO.bind ?_ (fun _ => ?_)
  ·intro y0 y1 y2 y3 y4 y5 y6 y7; unfold gain_Take.l0
   repeat' first
   | (with_reducible exact ih0 _ _ _ _ _ _ _)
   | (with_reducible exact ih1 _ _ _ _ _ _ _ _)
   | (with_reducible exact coder_Take.mono _ _ _ _ _ _ _ _)
   | (with_reducible exact gain_Right.mono _ _)
   | (with_reducible exact gain_take.mono _ _ _ _ _ _ _)
   | (with_reducible exact LeO.refl _)
   | (with_reducible exact LeO.none _)
   | (with_reducible refine LeO.ite ?_ ?_)
   | (with_reducible refine LeO.bind ?_ (fun _ => ?_))
   | exact ih0 _ _ _ _ _ _ _
   | exact ih1 _ _ _ _ _ _ _ _
   | exact coder_Take.mono _ _ _ _ _ _ _ _
   | exact gain_Right.mono _ _
   | exact gain_take.mono _ _ _ _ _ _ _
   | exact LeO.none _
   | refine LeO.ite ?_ ?_
   | refine LeO.bind ?_ (fun _ => ?_)
theorem gain_Take.mono : ∀ a0 a1 a2 a3 a4 a5 k, LeO (gain_Take.f k a0 a1 a2 a3 a4 a5) (gain_Take.f (k + 1) a0 a1 a2 a3 a4 a5) := by
 intro a0 a1 a2 a3 a4 a5 k; obtain ⟨ih0, ih1⟩ := gain_Take.mono_l k; unfold gain_Take.f
 repeat' first
   | (with_reducible exact ih0 _ _ _ _ _ _ _)
   | (with_reducible exact ih1 _ _ _ _ _ _ _ _)
   | (with_reducible exact coder_Take.mono _ _ _ _ _ _ _ _)
   | (with_reducible exact gain_Right.mono _ _)
   | (with_reducible exact gain_take.mono _ _ _ _ _ _ _)
   | (with_reducible exact LeO.refl _)
   | (with_reducible exact LeO.none _)
   | (with_reducible refine LeO.ite ?_ ?_)
   | (with_reducible refine LeO.bind ?_ (fun _ => ?_))
   | exact ih0 _ _ _ _ _ _ _
   | exact ih1 _ _ _ _ _ _ _ _
   | exact coder_Take.mono _ _ _ _ _ _ _ _
   | exact gain_Right.mono _ _
   | exact gain_take.mono _ _ _ _ _ _ _
   | exact LeO.none _
   | refine LeO.ite ?_ ?_
   | refine LeO.bind ?_ (fun _ => ?_)
end Go.Proofs.Ytgknajladloffaa.Q
