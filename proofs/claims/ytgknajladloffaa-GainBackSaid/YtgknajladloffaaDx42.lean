-- by a program of this session (wip/myprint.py)
import Derived.Test.YtgknajladloffaaQx0
import Derived.Test.YtgknajladloffaaDx1
import Derived.Test.YtgknajladloffaaDx5
import Derived.Test.YtgknajladloffaaDx8
import Derived.Test.YtgknajladloffaaDx35
namespace Go.Proofs.Ytgknajladloffaa.Q
open Go.RowKit Go.Proofs.YtgknajladloffaaW.PrintWords Go.Proofs.YtgknajladloffaaW.PrintLast Go.Proofs.YtgknajladloffaaW.PrintMore
attribute [local go_sem] max2_int min2_int max_two min_two max_three min_three max_four min_four   -- for this text's walks alone
set_option linter.unusedVariables false
set_option linter.unusedSimpArgs false

/-! ### psalterylaw11_GainShort: function 6 -/
mutual
def psalterylaw11_GainShort.l0 : Nat → List (S58) → List Int → Int → Int → Int → Int → List Int → Option (Bool)
 | 0, _, _, _, _, _, _, _ => none
 | k + 1, x0, x4, x5, x6, x747000, x747001, x747002 => if x6 < (x0.length : Int) then (psalterylaw11_GainShort.j1 k x0 x4 x5 x6 (decide (x6 < 20)) x747000 x747001 x747002) else (psalterylaw11_GainShort.j1 k x0 x4 x5 x6 false x747000 x747001 x747002)
def psalterylaw11_GainShort.j1 : Nat → List (S58) → List Int → Int → Int → Bool → Int → Int → List Int → Option (Bool)
 | 0, _, _, _, _, _, _, _, _ => none
 | k + 1, x0, x4, x5, x6, x18, x747000, x747001, x747002 => if x18 = true then (if 0 ≤ x6 then (if x6 < (x0.length : Int) then ((gain_Put.f k x747000 x747001 x747002 ((rd_T58 x0 x6).f0) x4 ((rd_T58 x0 x6).f1)).bind fun bt753 => (if bt753.2.2.2 = 0 then ((gain_Most.f ((rd_T58 x0 x6).f1)).bind fun t761 => (psalterylaw11_GainShort.l0 k x0 ((rd_T58 x0 x6).f0) (wrap64 (x5 + t761)) (wrap64 (x6 + 1)) bt753.1 bt753.2.1 bt753.2.2.1)) else (psalterylaw11_GainShort.l0 k x0 x4 x5 (wrap64 (x6 + 1)) x747000 x747001 x747002))) else (none)) else (none)) else (if (wrap64 (8 * (x747002.length : Int))) ≤ (wrap64 (x5 + 3)) then ((psalterylaw11_knows.f k).bind fun t750 => (some t750)) else (some false))
end
def psalterylaw11_GainShort.f (k : Nat) (l0 : List (S58)) : Option (Bool) := (coder_New.f).bind fun bt741 => (psalterylaw11_GainShort.l0 k l0 (([0, 0, 0, 0, 0] : List Int)) 0 0 bt741.1 bt741.2.1 bt741.2.2)
theorem psalterylaw11_GainShort.mono_l : ∀ k, (∀ y0 y1 y2 y3 y4 y5 y6, LeO (psalterylaw11_GainShort.l0 k y0 y1 y2 y3 y4 y5 y6) (psalterylaw11_GainShort.l0 (k + 1) y0 y1 y2 y3 y4 y5 y6)) ∧ (∀ y0 y1 y2 y3 y4 y5 y6 y7, LeO (psalterylaw11_GainShort.j1 k y0 y1 y2 y3 y4 y5 y6 y7) (psalterylaw11_GainShort.j1 (k + 1) y0 y1 y2 y3 y4 y5 y6 y7))
 | 0 => ⟨fun _ _ _ _ _ _ _ r h => by simp [psalterylaw11_GainShort.l0] at h, fun _ _ _ _ _ _ _ _ r h => by simp [psalterylaw11_GainShort.j1] at h⟩
 | k + 1 => by
  obtain ⟨ih0, ih1⟩ := psalterylaw11_GainShort.mono_l k; refine ⟨?_, ?_⟩
  ·intro y0 y1 y2 y3 y4 y5 y6; unfold psalterylaw11_GainShort.l0
   repeat' first
   | (with_reducible exact ih0 _ _ _ _ _ _ _)
   | (with_reducible exact ih1 _ _ _ _ _ _ _ _)
   | (with_reducible exact gain_Put.mono _ _ _ _ _ _ _)
   | (with_reducible exact psalterylaw11_knows.mono _)
   | (with_reducible exact LeO.refl _)
   | (with_reducible exact LeO.none _)
   | (with_reducible refine LeO.ite ?_ ?_)
   | (with_reducible refine LeO.bind ?_ (fun _ => ?_))
   | exact ih0 _ _ _ _ _ _ _
   | exact ih1 _ _ _ _ _ _ _ _
   | exact gain_Put.mono _ _ _ _ _ _ _
   | exact psalterylaw11_knows.mono _
   | exact LeO.none _
   | refine LeO.ite ?_ ?_
   | refine LeO.bind ?_ (fun _ => ?_)
  ·intro y0 y1 y2 y3 y4 y5 y6 y7; unfold psalterylaw11_GainShort.j1
   repeat' first
   | (with_reducible exact ih0 _ _ _ _ _ _ _)
   | (with_reducible exact ih1 _ _ _ _ _ _ _ _)
   | (with_reducible exact gain_Put.mono _ _ _ _ _ _ _)
   | (with_reducible exact psalterylaw11_knows.mono _)
   | (with_reducible exact LeO.refl _)
   | (with_reducible exact LeO.none _)
   | (with_reducible refine LeO.ite ?_ ?_)
   | (with_reducible refine LeO.bind ?_ (fun _ => ?_))
   | exact ih0 _ _ _ _ _ _ _
   | exact ih1 _ _ _ _ _ _ _ _
   | exact gain_Put.mono _ _ _ _ _ _ _
   | exact psalterylaw11_knows.mono _
   | exact LeO.none _
   | refine LeO.ite ?_ ?_
   | refine LeO.bind ?_ (fun _ => ?_)
theorem psalterylaw11_GainShort.mono : ∀ a0 k, LeO (psalterylaw11_GainShort.f k a0) (psalterylaw11_GainShort.f (k + 1) a0) := by
 intro a0 k; obtain ⟨ih0, ih1⟩ := psalterylaw11_GainShort.mono_l k; unfold psalterylaw11_GainShort.f
 repeat' first
   | (with_reducible exact ih0 _ _ _ _ _ _ _)
   | (with_reducible exact ih1 _ _ _ _ _ _ _ _)
   | (with_reducible exact gain_Put.mono _ _ _ _ _ _ _)
   | (with_reducible exact psalterylaw11_knows.mono _)
   | (with_reducible exact LeO.refl _)
   | (with_reducible exact LeO.none _)
   | (with_reducible refine LeO.ite ?_ ?_)
   | (with_reducible refine LeO.bind ?_ (fun _ => ?_))
   | exact ih0 _ _ _ _ _ _ _
   | exact ih1 _ _ _ _ _ _ _ _
   | exact gain_Put.mono _ _ _ _ _ _ _
   | exact psalterylaw11_knows.mono _
   | exact LeO.none _
   | refine LeO.ite ?_ ?_
   | refine LeO.bind ?_ (fun _ => ?_)
end Go.Proofs.Ytgknajladloffaa.Q
