-- by a program of this session (wip/myprint.py)
import Derived.Test.YtgknajladloffaaQx0
import Derived.Test.YtgknajladloffaaDx9
import Derived.Test.YtgknajladloffaaDx10
namespace Go.Proofs.Ytgknajladloffaa.Q
open Go.RowKit Go.Proofs.YtgknajladloffaaW.PrintWords Go.Proofs.YtgknajladloffaaW.PrintLast Go.Proofs.YtgknajladloffaaW.PrintMore
attribute [local go_sem] max2_int min2_int max_two min_two max_three min_three max_four min_four   -- for this text's walks alone
set_option linter.unusedVariables false
set_option linter.unusedSimpArgs false

/-! ### gain_take: function 89 -/
def gain_take.f (k : Nat) (a0_0 : Int) (a0_1 : Int) (l0_2 : List Int) (a0_3 : Int) (a1 : Int) (a2 : Bool) : Option (Int × Int × List Int × Int × Int) := if a2 = true then ((coder_TakeNum.f k a0_0 a0_1 l0_2 a0_3 45).bind fun bt312 => (some (bt312.1, bt312.2.1, bt312.2.2.1, bt312.2.2.2.1, wrap64 (bt312.2.2.2.2.1)))) else ((coder_Get.f a0_0 a0_1 l0_2 a0_3 8).bind fun bt321 => ((coder_Take.f k a0_0 a0_1 l0_2 a0_3 bt321.1 (wrap64 (bt321.1 + 1)) 8).bind fun bt323 => (if bt321.1 = 7 then ((coder_TakeNum.f k bt323.1 bt323.2.1 bt323.2.2.1 bt323.2.2.2.1 45).bind fun bt330 => (some (bt330.1, bt330.2.1, bt330.2.2.1, bt330.2.2.2.1, wrap64 (bt330.2.2.2.2.1)))) else (some (bt323.1, bt323.2.1, bt323.2.2.1, bt323.2.2.2.1, mx 0 (mn (wrap64 ((wrap64 (a1 + bt321.1)) - 3)) 44))))))
theorem gain_take.mono : ∀ a0 a1 a2 a3 a4 a5 k, LeO (gain_take.f k a0 a1 a2 a3 a4 a5) (gain_take.f (k + 1) a0 a1 a2 a3 a4 a5) := by
 intro a0 a1 a2 a3 a4 a5 k; unfold gain_take.f
 repeat' first
   | (with_reducible exact coder_Take.mono _ _ _ _ _ _ _ _)
   | (with_reducible exact coder_TakeNum.mono _ _ _ _ _ _)
   | (with_reducible exact LeO.refl _)
   | (with_reducible exact LeO.none _)
   | (with_reducible refine LeO.ite ?_ ?_)
   | (with_reducible refine LeO.bind ?_ (fun _ => ?_))
   | exact coder_Take.mono _ _ _ _ _ _ _ _
   | exact coder_TakeNum.mono _ _ _ _ _ _
   | exact LeO.none _
   | refine LeO.ite ?_ ?_
   | refine LeO.bind ?_ (fun _ => ?_)
end Go.Proofs.Ytgknajladloffaa.Q
