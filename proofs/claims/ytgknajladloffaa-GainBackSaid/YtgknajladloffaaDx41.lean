-- by a program of this session (wip/myprint.py)
import Derived.Test.YtgknajladloffaaQx0
import Derived.Test.YtgknajladloffaaDx1
import Derived.Test.YtgknajladloffaaDx5
import Derived.Test.YtgknajladloffaaDx8
import Derived.Test.YtgknajladloffaaDx9
import Derived.Test.YtgknajladloffaaDx12
import Derived.Test.YtgknajladloffaaDx35
namespace Go.Proofs.Ytgknajladloffaa.Q
open Go.RowKit Go.Proofs.YtgknajladloffaaW.PrintWords Go.Proofs.YtgknajladloffaaW.PrintLast Go.Proofs.YtgknajladloffaaW.PrintMore
attribute [local go_sem] max2_int min2_int max_two min_two max_three min_three max_four min_four   -- for this text's walks alone
set_option linter.unusedVariables false
set_option linter.unusedSimpArgs false

/-! ### psalterylaw11_GainBack: function 5 -/
mutual
def psalterylaw11_GainBack.l0 : Nat → List (S58) → List Int → List Int → List (S58) → Int → Int → Int → List Int → Option (Bool)
 | 0, _, _, _, _, _, _, _, _ => none
 | k + 1, x0, x4, x5, x6, x7, x699000, x699001, x699002 => if x7 < (x0.length : Int) then (psalterylaw11_GainBack.j1 k x0 x4 x5 x6 x7 (decide (x7 < 20)) x699000 x699001 x699002) else (psalterylaw11_GainBack.j1 k x0 x4 x5 x6 x7 false x699000 x699001 x699002)
def psalterylaw11_GainBack.j1 : Nat → List (S58) → List Int → List Int → List (S58) → Int → Bool → Int → Int → List Int → Option (Bool)
 | 0, _, _, _, _, _, _, _, _, _ => none
 | k + 1, x0, x4, x5, x6, x7, x25, x699000, x699001, x699002 => if x25 = true then (if 0 ≤ x7 then (if x7 < (x0.length : Int) then ((gain_Put.f k x699000 x699001 x699002 ((rd_T58 x0 x7).f0) x5 ((rd_T58 x0 x7).f1)).bind fun bt704 => (if bt704.2.2.2 = 0 then (if x6.length < 4398046511104 then (psalterylaw11_GainBack.l0 k x0 x4 ((rd_T58 x0 x7).f0) (x6 ++ [(⟨(rd_T58 x0 x7).f0, (rd_T58 x0 x7).f1⟩ : S58)]) (wrap64 (x7 + 1)) bt704.1 bt704.2.1 bt704.2.2.1) else (none)) else (psalterylaw11_GainBack.l0 k x0 x4 x5 x6 (wrap64 (x7 + 1)) x699000 x699001 x699002))) else (none)) else (none)) else ((coder_Finish.f x699000 x699001 x699002).bind fun t716 => ((coder_Open.f t716).bind fun bt719 => (psalterylaw11_GainBack.l1 k x4 x6 0 bt719.1 bt719.2.1 bt719.2.2.1 bt719.2.2.2)))
def psalterylaw11_GainBack.l1 : Nat → List Int → List (S58) → Int → Int → Int → List Int → Int → Option (Bool)
 | 0, _, _, _, _, _, _, _ => none
 | k + 1, x4, x6, x11, x726000, x726001, x726002, x726003 => if x11 < (x6.length : Int) then (if 0 ≤ x11 then ((gain_Take.f k x726000 x726001 x726002 x726003 x4 ((rd_T58 x6 x11).f1)).bind fun bt728 => (if bt728.2.2.2.2.2 = 0 then ((psalteryref06_Same.f k bt728.2.2.2.2.1 ((rd_T58 x6 x11).f0)).bind fun t740 => (if t740 = true then (psalterylaw11_GainBack.l1 k bt728.2.2.2.2.1 x6 (wrap64 (x11 + 1)) bt728.1 bt728.2.1 bt728.2.2.1 bt728.2.2.2.1) else (some false))) else (some false))) else (none)) else ((psalterylaw11_knows.f k).bind fun t726 => (some t726))
end
def psalterylaw11_GainBack.f (k : Nat) (l0 : List (S58)) : Option (Bool) := (coder_New.f).bind fun bt693 => ((some (([0, 0, 0, 0, 0] : List Int) : List Int)).bind fun y699 => (psalterylaw11_GainBack.l0 k l0 y699 y699 ([] : List (S58)) 0 bt693.1 bt693.2.1 bt693.2.2))
theorem psalterylaw11_GainBack.mono_l : ∀ k, (∀ y0 y1 y2 y3 y4 y5 y6 y7, LeO (psalterylaw11_GainBack.l0 k y0 y1 y2 y3 y4 y5 y6 y7) (psalterylaw11_GainBack.l0 (k + 1) y0 y1 y2 y3 y4 y5 y6 y7)) ∧ (∀ y0 y1 y2 y3 y4 y5 y6 y7 y8, LeO (psalterylaw11_GainBack.j1 k y0 y1 y2 y3 y4 y5 y6 y7 y8) (psalterylaw11_GainBack.j1 (k + 1) y0 y1 y2 y3 y4 y5 y6 y7 y8)) ∧ (∀ y0 y1 y2 y3 y4 y5 y6, LeO (psalterylaw11_GainBack.l1 k y0 y1 y2 y3 y4 y5 y6) (psalterylaw11_GainBack.l1 (k + 1) y0 y1 y2 y3 y4 y5 y6))
 | 0 => ⟨fun _ _ _ _ _ _ _ _ r h => by simp [psalterylaw11_GainBack.l0] at h, fun _ _ _ _ _ _ _ _ _ r h => by simp [psalterylaw11_GainBack.j1] at h, fun _ _ _ _ _ _ _ r h => by simp [psalterylaw11_GainBack.l1] at h⟩
 | k + 1 => by
  obtain ⟨ih0, ih1, ih2⟩ := psalterylaw11_GainBack.mono_l k; refine ⟨?_, ?_, ?_⟩
  ·intro y0 y1 y2 y3 y4 y5 y6 y7; unfold psalterylaw11_GainBack.l0
   repeat' first
   | (with_reducible exact ih0 _ _ _ _ _ _ _ _)
   | (with_reducible exact ih1 _ _ _ _ _ _ _ _ _)
   | (with_reducible exact ih2 _ _ _ _ _ _ _)
   | (with_reducible exact gain_Put.mono _ _ _ _ _ _ _)
   | (with_reducible exact gain_Take.mono _ _ _ _ _ _ _)
   | (with_reducible exact psalterylaw11_knows.mono _)
   | (with_reducible exact psalteryref06_Same.mono _ _ _)
   | (with_reducible exact LeO.refl _)
   | (with_reducible exact LeO.none _)
   | (with_reducible refine LeO.ite ?_ ?_)
   | (with_reducible refine LeO.bind ?_ (fun _ => ?_))
   | exact ih0 _ _ _ _ _ _ _ _
   | exact ih1 _ _ _ _ _ _ _ _ _
   | exact ih2 _ _ _ _ _ _ _
   | exact gain_Put.mono _ _ _ _ _ _ _
   | exact gain_Take.mono _ _ _ _ _ _ _
   | exact psalterylaw11_knows.mono _
   | exact psalteryref06_Same.mono _ _ _
   | exact LeO.none _
   | refine LeO.ite ?_ ?_
   | refine LeO.bind ?_ (fun _ => ?_)
  ·intro y0 y1 y2 y3 y4 y5 y6 y7 y8; unfold psalterylaw11_GainBack.j1
   repeat' first
   | (with_reducible exact ih0 _ _ _ _ _ _ _ _)
   | (with_reducible exact ih1 _ _ _ _ _ _ _ _ _)
   | (with_reducible exact ih2 _ _ _ _ _ _ _)
   | (with_reducible exact gain_Put.mono _ _ _ _ _ _ _)
   | (with_reducible exact gain_Take.mono _ _ _ _ _ _ _)
   | (with_reducible exact psalterylaw11_knows.mono _)
   | (with_reducible exact psalteryref06_Same.mono _ _ _)
   | (with_reducible exact LeO.refl _)
   | (with_reducible exact LeO.none _)
   | (with_reducible refine LeO.ite ?_ ?_)
   | (with_reducible refine LeO.bind ?_ (fun _ => ?_))
   | exact ih0 _ _ _ _ _ _ _ _
   | exact ih1 _ _ _ _ _ _ _ _ _
   | exact ih2 _ _ _ _ _ _ _
   | exact gain_Put.mono _ _ _ _ _ _ _
   | exact gain_Take.mono _ _ _ _ _ _ _
   | exact psalterylaw11_knows.mono _
   | exact psalteryref06_Same.mono _ _ _
   | exact LeO.none _
   | refine LeO.ite ?_ ?_
   | refine LeO.bind ?_ (fun _ => ?_)
  ·intro y0 y1 y2 y3 y4 y5 y6; unfold psalterylaw11_GainBack.l1
   repeat' first
   | (with_reducible exact ih0 _ _ _ _ _ _ _ _)
   | (with_reducible exact ih1 _ _ _ _ _ _ _ _ _)
   | (with_reducible exact ih2 _ _ _ _ _ _ _)
   | (with_reducible exact gain_Put.mono _ _ _ _ _ _ _)
   | (with_reducible exact gain_Take.mono _ _ _ _ _ _ _)
   | (with_reducible exact psalterylaw11_knows.mono _)
   | (with_reducible exact psalteryref06_Same.mono _ _ _)
   | (with_reducible exact LeO.refl _)
   | (with_reducible exact LeO.none _)
   | (with_reducible refine LeO.ite ?_ ?_)
   | (with_reducible refine LeO.bind ?_ (fun _ => ?_))
   | exact ih0 _ _ _ _ _ _ _ _
   | exact ih1 _ _ _ _ _ _ _ _ _
   | exact ih2 _ _ _ _ _ _ _
   | exact gain_Put.mono _ _ _ _ _ _ _
   | exact gain_Take.mono _ _ _ _ _ _ _
   | exact psalterylaw11_knows.mono _
   | exact psalteryref06_Same.mono _ _ _
   | exact LeO.none _
   | refine LeO.ite ?_ ?_
   | refine LeO.bind ?_ (fun _ => ?_)
theorem psalterylaw11_GainBack.mono : ∀ a0 k, LeO (psalterylaw11_GainBack.f k a0) (psalterylaw11_GainBack.f (k + 1) a0) := by
 intro a0 k; obtain ⟨ih0, ih1, ih2⟩ := psalterylaw11_GainBack.mono_l k; unfold psalterylaw11_GainBack.f
 repeat' first
   | (with_reducible exact ih0 _ _ _ _ _ _ _ _)
   | (with_reducible exact ih1 _ _ _ _ _ _ _ _ _)
   | (with_reducible exact ih2 _ _ _ _ _ _ _)
   | (with_reducible exact gain_Put.mono _ _ _ _ _ _ _)
   | (with_reducible exact gain_Take.mono _ _ _ _ _ _ _)
   | (with_reducible exact psalterylaw11_knows.mono _)
   | (with_reducible exact psalteryref06_Same.mono _ _ _)
   | (with_reducible exact LeO.refl _)
   | (with_reducible exact LeO.none _)
   | (with_reducible refine LeO.ite ?_ ?_)
   | (with_reducible refine LeO.bind ?_ (fun _ => ?_))
   | exact ih0 _ _ _ _ _ _ _ _
   | exact ih1 _ _ _ _ _ _ _ _ _
   | exact ih2 _ _ _ _ _ _ _
   | exact gain_Put.mono _ _ _ _ _ _ _
   | exact gain_Take.mono _ _ _ _ _ _ _
   | exact psalterylaw11_knows.mono _
   | exact psalteryref06_Same.mono _ _ _
   | exact LeO.none _
   | refine LeO.ite ?_ ?_
   | refine LeO.bind ?_ (fun _ => ?_)
end Go.Proofs.Ytgknajladloffaa.Q
