-- by a program of this session (wip/myprint.py)
import Derived.Test.YtgknajladloffaaQx0
import Derived.Test.YtgknajladloffaaDx5
namespace Go.Proofs.Ytgknajladloffaa.Q
open Go.RowKit Go.Proofs.YtgknajladloffaaW.PrintWords Go.Proofs.YtgknajladloffaaW.PrintLast Go.Proofs.YtgknajladloffaaW.PrintMore
attribute [local go_sem] max2_int min2_int max_two min_two max_three min_three max_four min_four   -- for this text's walks alone
set_option linter.unusedVariables false
set_option linter.unusedSimpArgs false

/-! ### coder_Finish: function 35 -/
def coder_Finish.f (a0_0 : Int) (a0_1 : Int) (l0_2 : List Int) : Option (List Int) := (coder_own.f a0_0 a0_1 l0_2).bind fun bt229 => ((some (([(bt229.1 / 16777216) % 256, (bt229.1 / 65536) % 256, (bt229.1 / 256) % 256, (bt229.1) % 256] : List Int) : List Int)).bind fun y234 => (if bt229.2.2.length + y234.length < 140737488355328 then (some (bt229.2.2 ++ y234)) else (none)))
/-! ### coder_at: function 87 -/
def coder_at.f (l0 : List Int) (a1 : Int) : Option (Int) := if a1 ≥ (l0.length : Int) then (some 0) else (if 0 ≤ a1 then (if a1 < (l0.length : Int) then (some (IntKind.u64.wrap (rd l0 a1))) else (none)) else (none))
/-! ### coder_Open: function 34 -/
def coder_Open.f (l0 : List Int) : Option (Int × Int × List Int × Int) := (coder_at.f l0 0).bind fun t248 => ((coder_at.f l0 1).bind fun t249 => ((coder_at.f l0 2).bind fun t250 => ((coder_at.f l0 3).bind fun t251 => (some (Go.bits .or .u64 (Go.bits .or .u64 (Go.bits .or .u64 (IntKind.u64.wrap (t248 * 16777216)) (IntKind.u64.wrap (t249 * 65536))) (IntKind.u64.wrap (t250 * 256))) t251, 4294967295, l0, 4)))))
/-! ### coder_RightDec: function 90 -/
def coder_RightDec.f (a0_0 : Int) (a0_1 : Int) (l0_2 : List Int) (a0_3 : Int) : Option (Bool) := if a0_0 ≤ 4294967295 then (if a0_1 ≥ 16777216 then (some (decide (a0_3 ≥ 0))) else (some false)) else (some false)
/-! ### coder_good: function 131 -/
def coder_good.f (a0_0 : Int) (a0_1 : Int) (l0_2 : List Int) (a0_3 : Int) : Option (Int × Int × List Int × Int) := (coder_RightDec.f a0_0 a0_1 l0_2 a0_3).bind fun t255 => (if t255 = true then (some (a0_0, a0_1, l0_2, a0_3)) else ((coder_Open.f ([] : List Int)).bind fun bt256 => (some (bt256.1, bt256.2.1, bt256.2.2.1, bt256.2.2.2))))
/-! ### coder_Take: function 81 -/
def coder_Take.l0 : Nat → Int → Int → Int → List Int → Int → Option (Int × Int × List Int × Int × Int)
 | 0, _, _, _, _, _ => none
 | k + 1, x10, x263000, x263001, x263002, x263003 => if x10 < 16777216 then ((coder_at.f x263002 x263003).bind fun t273 => (if x263003 < (x263002.length : Int) then (coder_Take.l0 k ((x10 * 256) % 4294967296) (Go.bits .or .u64 (Go.bits .and .u64 (IntKind.u64.wrap (x263000 * 256)) 4294967295) t273) x263001 x263002 (wrap64 (x263003 + 1))) else (coder_Take.l0 k ((x10 * 256) % 4294967296) (Go.bits .or .u64 (Go.bits .and .u64 (IntKind.u64.wrap (x263000 * 256)) 4294967295) t273) x263001 x263002 x263003))) else (some (x263000, x10, x263002, x263003, 0))
def coder_Take.f (k : Nat) (a0_0 : Int) (a0_1 : Int) (l0_2 : List Int) (a0_3 : Int) (a1 : Int) (a2 : Int) (a3 : Int) : Option (Int × Int × List Int × Int × Int) := (coder_good.f a0_0 a0_1 l0_2 a0_3).bind fun bt264 => ((coder_fair.f a1 a2 a3).bind fun t270 => (if t270 = true then ((coder_part.f bt264.2.1 a1 a2 a3).bind fun bt271 => (coder_Take.l0 k bt271.1 (IntKind.u64.wrap (bt264.1 - (mn bt264.1 bt271.2))) bt264.2.1 bt264.2.2.1 bt264.2.2.2)) else (some (bt264.1, bt264.2.1, bt264.2.2.1, bt264.2.2.2, 1))))
theorem coder_Take.mono_l : ∀ k, (∀ y0 y1 y2 y3 y4, LeO (coder_Take.l0 k y0 y1 y2 y3 y4) (coder_Take.l0 (k + 1) y0 y1 y2 y3 y4))
 | 0 => fun _ _ _ _ _ r h => by simp [coder_Take.l0] at h
 | k + 1 => by
  have ih0 := coder_Take.mono_l k
  ·intro y0 y1 y2 y3 y4; unfold coder_Take.l0
   repeat' first
   | (with_reducible exact ih0 _ _ _ _ _)
   | (with_reducible exact LeO.refl _)
   | (with_reducible exact LeO.none _)
   | (with_reducible refine LeO.ite ?_ ?_)
   | (with_reducible refine LeO.bind ?_ (fun _ => ?_))
   | exact ih0 _ _ _ _ _
   | exact LeO.none _
   | refine LeO.ite ?_ ?_
   | refine LeO.bind ?_ (fun _ => ?_)
theorem coder_Take.mono : ∀ a0 a1 a2 a3 a4 a5 a6 k, LeO (coder_Take.f k a0 a1 a2 a3 a4 a5 a6) (coder_Take.f (k + 1) a0 a1 a2 a3 a4 a5 a6) := by
 intro a0 a1 a2 a3 a4 a5 a6 k; have ih0 := coder_Take.mono_l k; unfold coder_Take.f
 repeat' first
   | (with_reducible exact ih0 _ _ _ _ _)
   | (with_reducible exact LeO.refl _)
   | (with_reducible exact LeO.none _)
   | (with_reducible refine LeO.ite ?_ ?_)
   | (with_reducible refine LeO.bind ?_ (fun _ => ?_))
   | exact ih0 _ _ _ _ _
   | exact LeO.none _
   | refine LeO.ite ?_ ?_
   | refine LeO.bind ?_ (fun _ => ?_)
end Go.Proofs.Ytgknajladloffaa.Q
