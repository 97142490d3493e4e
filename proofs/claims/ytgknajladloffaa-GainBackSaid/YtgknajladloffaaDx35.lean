-- by a program of this session (wip/myprint.py)
import Derived.Test.YtgknajladloffaaQx0
import Derived.Test.YtgknajladloffaaDx1
import Derived.Test.YtgknajladloffaaDx5
import Derived.Test.YtgknajladloffaaDx8
import Derived.Test.YtgknajladloffaaDx9
import Derived.Test.YtgknajladloffaaDx12
namespace Go.Proofs.Ytgknajladloffaa.Q
open Go.RowKit Go.Proofs.YtgknajladloffaaW.PrintWords Go.Proofs.YtgknajladloffaaW.PrintLast Go.Proofs.YtgknajladloffaaW.PrintMore
attribute [local go_sem] max2_int min2_int max_two min_two max_three min_three max_four min_four   -- for this text's walks alone
set_option linter.unusedVariables false
set_option linter.unusedSimpArgs false

/-! ### psalterylaw11_knows: function 38 -/
def psalterylaw11_knows.f (k : Nat)  : Option (Bool) := (some (([5, 5, 5, 5, 5] : List Int) : List Int)).bind fun y650 => ((some (([5, 4, 8, 9, 5] : List Int) : List Int)).bind fun y653 => ((coder_New.f).bind fun bt656 => ((gain_Put.f k bt656.1 bt656.2.1 bt656.2.2 y650 y653 false).bind fun bt661 => ((coder_Finish.f bt661.1 bt661.2.1 bt661.2.2.1).bind fun t668 => ((coder_Open.f t668).bind fun bt671 => ((gain_Take.f k bt671.1 bt671.2.1 bt671.2.2.1 bt671.2.2.2 y653 false).bind fun bt677 => (if bt661.2.2.2 = 0 then ((psalteryref06_Same.f k bt677.2.2.2.2.1 y650).bind fun t688 => (if t688 = true then (if bt677.2.2.2.2.2 = 0 then ((coder_RightDec.f bt677.1 bt677.2.1 bt677.2.2.1 bt677.2.2.2.1).bind fun t689 => (if t689 = true then ((gain_Most.f true).bind fun t690 => (if t690 = 30 then ((gain_Most.f false).bind fun t691 => (if t691 = 45 then ((gain_Right.f k y650).bind fun t692 => (some t692)) else (some false))) else (some false))) else (some false))) else (some false)) else (some false))) else (some false))))))))
theorem psalterylaw11_knows.mono : ∀ k, LeO (psalterylaw11_knows.f k ) (psalterylaw11_knows.f (k + 1) ) := by
 intro  k; unfold psalterylaw11_knows.f
 repeat' first
   | (with_reducible exact gain_Put.mono _ _ _ _ _ _ _)
   | (with_reducible exact gain_Right.mono _ _)
   | (with_reducible exact gain_Take.mono _ _ _ _ _ _ _)
   | (with_reducible exact psalteryref06_Same.mono _ _ _)
   | (with_reducible exact LeO.refl _)
   | (with_reducible exact LeO.none _)
   | (with_reducible refine LeO.ite ?_ ?_)
   | (with_reducible refine LeO.bind ?_ (fun _ => ?_))
   | exact gain_Put.mono _ _ _ _ _ _ _
   | exact gain_Right.mono _ _
   | exact gain_Take.mono _ _ _ _ _ _ _
   | exact psalteryref06_Same.mono _ _ _
   | exact LeO.none _
   | refine LeO.ite ?_ ?_
   | refine LeO.bind ?_ (fun _ => ?_)
end Go.Proofs.Ytgknajladloffaa.Q
