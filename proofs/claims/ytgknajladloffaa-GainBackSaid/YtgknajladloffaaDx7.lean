-- by a program of this session (wip/myprint.py)
import Derived.Test.YtgknajladloffaaQx0
import Derived.Test.YtgknajladloffaaDx5
import Derived.Test.YtgknajladloffaaDx6
namespace Go.Proofs.Ytgknajladloffaa.Q
open Go.RowKit Go.Proofs.YtgknajladloffaaW.PrintWords Go.Proofs.YtgknajladloffaaW.PrintLast Go.Proofs.YtgknajladloffaaW.PrintMore
attribute [local go_sem] max2_int min2_int max_two min_two max_three min_three max_four min_four   -- for this text's walks alone
set_option linter.unusedVariables false
set_option linter.unusedSimpArgs false

/-! ### gain_put: function 86 -/
def gain_put.j0 : Nat → Int → Int → Bool → Int → Int → List Int → Option (Int × Int × List Int × Int)
 | 0, _, _, _, _, _, _ => none
 | k + 1, x1, x10, x23, x181000, x181001, x181002 => if x23 = true then ((coder_Put.f k x181000 x181001 x181002 (wrap64 (x10 + 3)) (wrap64 ((wrap64 (x10 + 3)) + 1)) 8).bind fun bt188 => (some (bt188.1, bt188.2.1, bt188.2.2.1, bt188.2.2.2))) else ((coder_Put.f k x181000 x181001 x181002 7 8 8).bind fun bt194 => (if bt194.2.2.2 = 0 then ((coder_PutNum.f k bt194.1 bt194.2.1 bt194.2.2.1 (IntKind.u64.wrap (x1)) 45).bind fun bt201 => (some (bt201.1, bt201.2.1, bt201.2.2.1, bt201.2.2.2))) else (some (bt194.1, bt194.2.1, bt194.2.2.1, bt194.2.2.2))))
def gain_put.f (k : Nat) (a0_0 : Int) (a0_1 : Int) (l0_2 : List Int) (a1 : Int) (a2 : Int) (a3 : Bool) : Option (Int × Int × List Int × Int) := if a3 = true then ((coder_PutNum.f k a0_0 a0_1 l0_2 (IntKind.u64.wrap (a1)) 45).bind fun bt182 => (some (bt182.1, bt182.2.1, bt182.2.2.1, bt182.2.2.2))) else (if (wrap64 (a1 - a2)) ≥ (-3) then (gain_put.j0 k a1 (wrap64 (a1 - a2)) (decide ((wrap64 (a1 - a2)) ≤ 3)) a0_0 a0_1 l0_2) else (gain_put.j0 k a1 (wrap64 (a1 - a2)) false a0_0 a0_1 l0_2))
theorem gain_put.mono_l : ∀ k, (∀ y0 y1 y2 y3 y4 y5, LeO (gain_put.j0 k y0 y1 y2 y3 y4 y5) (gain_put.j0 (k + 1) y0 y1 y2 y3 y4 y5))
 | 0 => fun _ _ _ _ _ _ r h => by simp [gain_put.j0] at h
 | k + 1 => by
  have ih0 := gain_put.mono_l k
  ·intro y0 y1 y2 y3 y4 y5; unfold gain_put.j0
   repeat' first
   | (with_reducible exact ih0 _ _ _ _ _ _)
   | (with_reducible exact coder_Put.mono _ _ _ _ _ _ _)
   | (with_reducible exact coder_PutNum.mono _ _ _ _ _ _)
   | (with_reducible exact LeO.refl _)
   | (with_reducible exact LeO.none _)
   | (with_reducible refine LeO.ite ?_ ?_)
   | (with_reducible refine LeO.bind ?_ (fun _ => ?_))
   | exact ih0 _ _ _ _ _ _
   | exact coder_Put.mono _ _ _ _ _ _ _
   | exact coder_PutNum.mono _ _ _ _ _ _
   | exact LeO.none _
   | refine LeO.ite ?_ ?_
   | refine LeO.bind ?_ (fun _ => ?_)
theorem gain_put.mono : ∀ a0 a1 a2 a3 a4 a5 k, LeO (gain_put.f k a0 a1 a2 a3 a4 a5) (gain_put.f (k + 1) a0 a1 a2 a3 a4 a5) := by
 intro a0 a1 a2 a3 a4 a5 k; have ih0 := gain_put.mono_l k; unfold gain_put.f
 repeat' first
   | (with_reducible exact ih0 _ _ _ _ _ _)
   | (with_reducible exact coder_Put.mono _ _ _ _ _ _ _)
   | (with_reducible exact coder_PutNum.mono _ _ _ _ _ _)
   | (with_reducible exact LeO.refl _)
   | (with_reducible exact LeO.none _)
   | (with_reducible refine LeO.ite ?_ ?_)
   | (with_reducible refine LeO.bind ?_ (fun _ => ?_))
   | exact ih0 _ _ _ _ _ _
   | exact coder_Put.mono _ _ _ _ _ _ _
   | exact coder_PutNum.mono _ _ _ _ _ _
   | exact LeO.none _
   | refine LeO.ite ?_ ?_
   | refine LeO.bind ?_ (fun _ => ?_)
end Go.Proofs.Ytgknajladloffaa.Q
