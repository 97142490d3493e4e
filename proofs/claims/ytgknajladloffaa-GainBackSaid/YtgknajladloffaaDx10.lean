-- by a program of this session (wip/myprint.py)
import Derived.Test.YtgknajladloffaaQx0
import Derived.Test.YtgknajladloffaaDx1
import Derived.Test.YtgknajladloffaaDx5
import Derived.Test.YtgknajladloffaaDx9
namespace Go.Proofs.Ytgknajladloffaa.Q
open Go.RowKit Go.Proofs.YtgknajladloffaaW.PrintWords Go.Proofs.YtgknajladloffaaW.PrintLast Go.Proofs.YtgknajladloffaaW.PrintMore
attribute [local go_sem] max2_int min2_int max_two min_two max_three min_three max_four min_four   -- for this text's walks alone
set_option linter.unusedVariables false
set_option linter.unusedSimpArgs false

/-! ### coder_Get: function 80 -/
def coder_Get.f (a0_0 : Int) (a0_1 : Int) (l0_2 : List Int) (a0_3 : Int) (a1 : Int) : Option (Int × Int) := (coder_good.f a0_0 a0_1 l0_2 a0_3).bind fun bt275 => (if a1 < 1 then (some (0, 1)) else (if a1 > 65536 then (some (0, 1)) else (if ((a1) % 4294967296) = 0 then (none) else (if ((Int.tdiv bt275.2.1 ((a1) % 4294967296)) % 4294967296) = 0 then (none) else ((num_Clamp.f (wrap64 (IntKind.u64.wrap (Int.tdiv bt275.1 ((Int.tdiv bt275.2.1 ((a1) % 4294967296)) % 4294967296)))) 0 (wrap64 (a1 - 1))).bind fun t281 => (some (t281, 0)))))))
/-! ### coder_TakeNum: function 82 -/
def coder_TakeNum.j0 : Nat → Int → Bool → Int → Int → List Int → Int → Option (Int × Int × List Int × Int × Int × Int)
 | 0, _, _, _, _, _, _ => none
 | k + 1, x1, x21, x283000, x283001, x283002, x283003 => if x21 = true then (some (x283000, x283001, x283002, x283003, 0, 1)) else ((coder_halves.f x1).bind fun bt290 => ((coder_Get.f x283000 x283001 x283002 x283003 bt290.1).bind fun bt292 => ((coder_Take.f k x283000 x283001 x283002 x283003 bt292.1 (wrap64 (bt292.1 + 1)) bt290.1).bind fun bt294 => (if bt290.2 > 1 then ((coder_Get.f bt294.1 bt294.2.1 bt294.2.2.1 bt294.2.2.2.1 bt290.2).bind fun bt301 => ((coder_Take.f k bt294.1 bt294.2.1 bt294.2.2.1 bt294.2.2.2.1 bt301.1 (wrap64 (bt301.1 + 1)) bt290.2).bind fun bt303 => (some (bt303.1, bt303.2.1, bt303.2.2.1, bt303.2.2.2.1, mn (IntKind.u64.wrap ((IntKind.u64.wrap ((IntKind.u64.wrap (bt292.1)) * (IntKind.u64.wrap (bt290.2)))) + (IntKind.u64.wrap (bt301.1)))) (IntKind.u64.wrap (x1 - 1)), 0)))) else (some (bt294.1, bt294.2.1, bt294.2.2.1, bt294.2.2.2.1, mn (IntKind.u64.wrap (bt292.1)) (IntKind.u64.wrap (x1 - 1)), 0))))))
def coder_TakeNum.f (k : Nat) (a0_0 : Int) (a0_1 : Int) (l0_2 : List Int) (a0_3 : Int) (a1 : Int) : Option (Int × Int × List Int × Int × Int × Int) := (coder_good.f a0_0 a0_1 l0_2 a0_3).bind fun bt284 => (if a1 < 1 then (coder_TakeNum.j0 k a1 true bt284.1 bt284.2.1 bt284.2.2.1 bt284.2.2.2) else (coder_TakeNum.j0 k a1 (decide (a1 > 4294967296)) bt284.1 bt284.2.1 bt284.2.2.1 bt284.2.2.2))
theorem coder_TakeNum.mono_l : ∀ k, (∀ y0 y1 y2 y3 y4 y5, LeO (coder_TakeNum.j0 k y0 y1 y2 y3 y4 y5) (coder_TakeNum.j0 (k + 1) y0 y1 y2 y3 y4 y5))
 | 0 => fun _ _ _ _ _ _ r h => by simp [coder_TakeNum.j0] at h
 | k + 1 => by
  have ih0 := coder_TakeNum.mono_l k
  ·intro y0 y1 y2 y3 y4 y5; unfold coder_TakeNum.j0
   repeat' first
   | (with_reducible exact ih0 _ _ _ _ _ _)
   | (with_reducible exact coder_Take.mono _ _ _ _ _ _ _ _)
   | (with_reducible exact LeO.refl _)
   | (with_reducible exact LeO.none _)
   | (with_reducible refine LeO.ite ?_ ?_)
   | (with_reducible refine LeO.bind ?_ (fun _ => ?_))
   | exact ih0 _ _ _ _ _ _
   | exact coder_Take.mono _ _ _ _ _ _ _ _
   | exact LeO.none _
   | refine LeO.ite ?_ ?_
   | refine LeO.bind ?_ (fun _ => ?_)
theorem coder_TakeNum.mono : ∀ a0 a1 a2 a3 a4 k, LeO (coder_TakeNum.f k a0 a1 a2 a3 a4) (coder_TakeNum.f (k + 1) a0 a1 a2 a3 a4) := by
 intro a0 a1 a2 a3 a4 k; have ih0 := coder_TakeNum.mono_l k; unfold coder_TakeNum.f
 repeat' first
   | (with_reducible exact ih0 _ _ _ _ _ _)
   | (with_reducible exact coder_Take.mono _ _ _ _ _ _ _ _)
   | (with_reducible exact LeO.refl _)
   | (with_reducible exact LeO.none _)
   | (with_reducible refine LeO.ite ?_ ?_)
   | (with_reducible refine LeO.bind ?_ (fun _ => ?_))
   | exact ih0 _ _ _ _ _ _
   | exact coder_Take.mono _ _ _ _ _ _ _ _
   | exact LeO.none _
   | refine LeO.ite ?_ ?_
   | refine LeO.bind ?_ (fun _ => ?_)
end Go.Proofs.Ytgknajladloffaa.Q
