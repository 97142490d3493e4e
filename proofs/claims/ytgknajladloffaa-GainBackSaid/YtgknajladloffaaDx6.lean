-- by a program of this session (wip/myprint.py)
import Derived.Test.YtgknajladloffaaQx0
import Derived.Test.YtgknajladloffaaDx5
namespace Go.Proofs.Ytgknajladloffaa.Q
open Go.RowKit Go.Proofs.YtgknajladloffaaW.PrintWords Go.Proofs.YtgknajladloffaaW.PrintLast Go.Proofs.YtgknajladloffaaW.PrintMore
attribute [local go_sem] max2_int min2_int max_two min_two max_three min_three max_four min_four   -- for this text's walks alone
set_option linter.unusedVariables false
set_option linter.unusedSimpArgs false

/-! ### coder_PutNum: function 66 -/
mutual
def coder_PutNum.j0 : Nat → Int → Int → Bool → Int → Int → List Int → Option (Int × Int × List Int × Int)
 | 0, _, _, _, _, _, _ => none
 | k + 1, x1, x2, x26, x159000, x159001, x159002 => if x26 = true then (some (x159000, x159001, x159002, 1)) else ((coder_halves.f x2).bind fun bt165 => (if bt165.2 = 0 then (none) else ((coder_Put.f k x159000 x159001 x159002 (wrap64 (Int.tdiv (wrap64 (x1)) bt165.2)) (wrap64 ((wrap64 (Int.tdiv (wrap64 (x1)) bt165.2)) + 1)) bt165.1).bind fun bt167 => (if bt167.2.2.2 = 0 then (coder_PutNum.j1 k bt165.2 (Int.tmod (wrap64 (x1)) bt165.2) bt167.2.2.2 (decide (bt165.2 > 1)) x159000 x159001 x159002 bt167.1 bt167.2.1 bt167.2.2.1) else (coder_PutNum.j1 k bt165.2 (Int.tmod (wrap64 (x1)) bt165.2) bt167.2.2.2 false x159000 x159001 x159002 bt167.1 bt167.2.1 bt167.2.2.1)))))
def coder_PutNum.j1 : Nat → Int → Int → Int → Bool → Int → Int → List Int → Int → Int → List Int → Option (Int × Int × List Int × Int)
 | 0, _, _, _, _, _, _, _, _, _, _ => none
 | k + 1, x9, x11, x13, x55, x159000, x159001, x159002, x174000, x174001, x174002 => if x55 = true then ((coder_Put.f k x174000 x174001 x174002 x11 (wrap64 (x11 + 1)) x9).bind fun bt174 => (coder_PutNum.j2 k bt174.2.2.2 x159000 x159001 x159002 bt174.1 bt174.2.1 bt174.2.2.1)) else (coder_PutNum.j2 k x13 x159000 x159001 x159002 x174000 x174001 x174002)
def coder_PutNum.j2 : Nat → Int → Int → Int → List Int → Int → Int → List Int → Option (Int × Int × List Int × Int)
 | 0, _, _, _, _, _, _, _ => none
 | k + 1, x13, x159000, x159001, x159002, x174000, x174001, x174002 => if x13 = 0 then (some (x174000, x174001, x174002, 0)) else (some (x159000, x159001, x159002, x13))
end
def coder_PutNum.f (k : Nat) (a0_0 : Int) (a0_1 : Int) (l0_2 : List Int) (a1 : Int) (a2 : Int) : Option (Int × Int × List Int × Int) := (coder_own.f a0_0 a0_1 l0_2).bind fun bt160 => (if a2 < 1 then (coder_PutNum.j0 k a1 a2 true bt160.1 bt160.2.1 bt160.2.2) else (if a2 > 4294967296 then (coder_PutNum.j0 k a1 a2 true bt160.1 bt160.2.1 bt160.2.2) else (coder_PutNum.j0 k a1 a2 (decide (a1 ≥ a2)) bt160.1 bt160.2.1 bt160.2.2)))
theorem coder_PutNum.mono_l : ∀ k, (∀ y0 y1 y2 y3 y4 y5, LeO (coder_PutNum.j0 k y0 y1 y2 y3 y4 y5) (coder_PutNum.j0 (k + 1) y0 y1 y2 y3 y4 y5)) ∧ (∀ y0 y1 y2 y3 y4 y5 y6 y7 y8 y9, LeO (coder_PutNum.j1 k y0 y1 y2 y3 y4 y5 y6 y7 y8 y9) (coder_PutNum.j1 (k + 1) y0 y1 y2 y3 y4 y5 y6 y7 y8 y9)) ∧ (∀ y0 y1 y2 y3 y4 y5 y6, LeO (coder_PutNum.j2 k y0 y1 y2 y3 y4 y5 y6) (coder_PutNum.j2 (k + 1) y0 y1 y2 y3 y4 y5 y6))
 | 0 => ⟨fun _ _ _ _ _ _ r h => by simp [coder_PutNum.j0] at h, fun _ _ _ _ _ _ _ _ _ _ r h => by simp [coder_PutNum.j1] at h, fun _ _ _ _ _ _ _ r h => by simp [coder_PutNum.j2] at h⟩
 | k + 1 => by
  obtain ⟨ih0, ih1, ih2⟩ := coder_PutNum.mono_l k; refine ⟨?_, ?_, ?_⟩
  ·intro y0 y1 y2 y3 y4 y5; unfold coder_PutNum.j0
   repeat' first
   | (with_reducible exact ih0 _ _ _ _ _ _)
   | (with_reducible exact ih1 _ _ _ _ _ _ _ _ _ _)
   | (with_reducible exact ih2 _ _ _ _ _ _ _)
   | (with_reducible exact coder_Put.mono _ _ _ _ _ _ _)
   | (with_reducible exact LeO.refl _)
   | (with_reducible exact LeO.none _)
   | (with_reducible refine LeO.ite ?_ ?_)
   | (with_reducible refine LeO.bind ?_ (fun _ => ?_))
   | exact ih0 _ _ _ _ _ _
   | exact ih1 _ _ _ _ _ _ _ _ _ _
   | exact ih2 _ _ _ _ _ _ _
   | exact coder_Put.mono _ _ _ _ _ _ _
   | exact LeO.none _
   | refine LeO.ite ?_ ?_
   | refine LeO.bind ?_ (fun _ => ?_)
  ·intro y0 y1 y2 y3 y4 y5 y6 y7 y8 y9; unfold coder_PutNum.j1
   repeat' first
   | (with_reducible exact ih0 _ _ _ _ _ _)
   | (with_reducible exact ih1 _ _ _ _ _ _ _ _ _ _)
   | (with_reducible exact ih2 _ _ _ _ _ _ _)
   | (with_reducible exact coder_Put.mono _ _ _ _ _ _ _)
   | (with_reducible exact LeO.refl _)
   | (with_reducible exact LeO.none _)
   | (with_reducible refine LeO.ite ?_ ?_)
   | (with_reducible refine LeO.bind ?_ (fun _ => ?_))
   | exact ih0 _ _ _ _ _ _
   | exact ih1 _ _ _ _ _ _ _ _ _ _
   | exact ih2 _ _ _ _ _ _ _
   | exact coder_Put.mono _ _ _ _ _ _ _
   | exact LeO.none _
   | refine LeO.ite ?_ ?_
   | refine LeO.bind ?_ (fun _ => ?_)
  ·intro y0 y1 y2 y3 y4 y5 y6; unfold coder_PutNum.j2
   repeat' first
   | (with_reducible exact ih0 _ _ _ _ _ _)
   | (with_reducible exact ih1 _ _ _ _ _ _ _ _ _ _)
   | (with_reducible exact ih2 _ _ _ _ _ _ _)
   | (with_reducible exact coder_Put.mono _ _ _ _ _ _ _)
   | (with_reducible exact LeO.refl _)
   | (with_reducible exact LeO.none _)
   | (with_reducible refine LeO.ite ?_ ?_)
   | (with_reducible refine LeO.bind ?_ (fun _ => ?_))
   | exact ih0 _ _ _ _ _ _
   | exact ih1 _ _ _ _ _ _ _ _ _ _
   | exact ih2 _ _ _ _ _ _ _
   | exact coder_Put.mono _ _ _ _ _ _ _
   | exact LeO.none _
   | refine LeO.ite ?_ ?_
   | refine LeO.bind ?_ (fun _ => ?_)
theorem coder_PutNum.mono : ∀ a0 a1 a2 a3 a4 k, LeO (coder_PutNum.f k a0 a1 a2 a3 a4) (coder_PutNum.f (k + 1) a0 a1 a2 a3 a4) := by
 intro a0 a1 a2 a3 a4 k; obtain ⟨ih0, ih1, ih2⟩ := coder_PutNum.mono_l k; unfold coder_PutNum.f
 repeat' first
   | (with_reducible exact ih0 _ _ _ _ _ _)
   | (with_reducible exact ih1 _ _ _ _ _ _ _ _ _ _)
   | (with_reducible exact ih2 _ _ _ _ _ _ _)
   | (with_reducible exact coder_Put.mono _ _ _ _ _ _ _)
   | (with_reducible exact LeO.refl _)
   | (with_reducible exact LeO.none _)
   | (with_reducible refine LeO.ite ?_ ?_)
   | (with_reducible refine LeO.bind ?_ (fun _ => ?_))
   | exact ih0 _ _ _ _ _ _
   | exact ih1 _ _ _ _ _ _ _ _ _ _
   | exact ih2 _ _ _ _ _ _ _
   | exact coder_Put.mono _ _ _ _ _ _ _
   | exact LeO.none _
   | refine LeO.ite ?_ ?_
   | refine LeO.bind ?_ (fun _ => ?_)
end Go.Proofs.Ytgknajladloffaa.Q
