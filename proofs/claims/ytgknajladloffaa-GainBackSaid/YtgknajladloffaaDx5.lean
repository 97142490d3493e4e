-- by a program of this session (wip/myprint.py)
import Derived.Test.YtgknajladloffaaQx0
namespace Go.Proofs.Ytgknajladloffaa.Q
open Go.RowKit Go.Proofs.YtgknajladloffaaW.PrintWords Go.Proofs.YtgknajladloffaaW.PrintLast Go.Proofs.YtgknajladloffaaW.PrintMore
attribute [local go_sem] max2_int min2_int max_two min_two max_three min_three max_four min_four   -- for this text's walks alone
set_option linter.unusedVariables false
set_option linter.unusedSimpArgs false

/-! ### coder_New: function 32 -/
def coder_New.f  : Option (Int × Int × List Int) := some (0, 4294967295, ([] : List Int))
/-! ### coder_RightEnc: function 133 -/
def coder_RightEnc.f (a0_0 : Int) (a0_1 : Int) (l0_2 : List Int) : Option (Bool) := if a0_0 ≤ 4294967295 then (if a0_1 ≥ 16777216 then (some (decide ((l0_2.length : Int) ≤ 4000))) else (some false)) else (some false)
/-! ### coder_own: function 88 -/
def coder_own.f (a0_0 : Int) (a0_1 : Int) (l0_2 : List Int) : Option (Int × Int × List Int) := (coder_RightEnc.f a0_0 a0_1 l0_2).bind fun t129 => (if t129 = true then ((some (([] : List Int) : List Int)).bind fun y130 => (if y130.length + l0_2.length < 140737488355328 then (some (a0_0, a0_1, (y130 ++ l0_2))) else (none))) else ((coder_New.f).bind fun bt136 => (some (bt136.1, bt136.2.1, bt136.2.2))))
/-! ### coder_fair: function 107 -/
def coder_fair.f (a0 : Int) (a1 : Int) (a2 : Int) : Option (Bool) := if a0 ≥ 0 then (if a0 < a1 then (if a1 ≤ a2 then (some (decide (a2 ≤ 65536))) else (some false)) else (some false)) else (some false)
/-! ### coder_part: function 108 -/
def coder_part.f (a0 : Int) (a1 : Int) (a2 : Int) (a3 : Int) : Option (Int × Int) := if ((a3) % 4294967296) = 0 then (none) else (if a2 = a3 then (some ((a0 - ((IntKind.u64.wrap (((Int.tdiv a0 ((a3) % 4294967296)) % 4294967296) * (IntKind.u64.wrap (a1)))) % 4294967296)) % 4294967296, IntKind.u64.wrap (((Int.tdiv a0 ((a3) % 4294967296)) % 4294967296) * (IntKind.u64.wrap (a1))))) else (some ((((Int.tdiv a0 ((a3) % 4294967296)) % 4294967296) * ((wrap64 (a2 - a1)) % 4294967296)) % 4294967296, IntKind.u64.wrap (((Int.tdiv a0 ((a3) % 4294967296)) % 4294967296) * (IntKind.u64.wrap (a1))))))
/-! ### coder_carry: function 109 -/
def coder_carry.l0 : Nat → List Int → Int → Option (List Int)
 | 0, _, _ => none
 | k + 1, x0, x2 => if x2 ≥ 0 then (if 0 ≤ x2 then (if x2 < (x0.length : Int) then ((some (x0.set (x2 : Int).toNat (((rd x0 x2) + 1) % 256) : List Int)).bind fun y142 => (if (rd y142 x2) = 0 then (coder_carry.l0 k y142 (wrap64 (x2 - 1))) else (some y142))) else (none)) else (none)) else (some x0)
def coder_carry.f (k : Nat) (l0 : List Int) : Option (List Int) := coder_carry.l0 k l0 (wrap64 ((l0.length : Int) - 1))
theorem coder_carry.mono_l : ∀ k, (∀ y0 y1, LeO (coder_carry.l0 k y0 y1) (coder_carry.l0 (k + 1) y0 y1))
 | 0 => fun _ _ r h => by simp [coder_carry.l0] at h
 | k + 1 => by
  have ih0 := coder_carry.mono_l k
  ·intro y0 y1; unfold coder_carry.l0
   repeat' first
   | (with_reducible exact ih0 _ _)
   | (with_reducible exact LeO.refl _)
   | (with_reducible exact LeO.none _)
   | (with_reducible refine LeO.ite ?_ ?_)
   | (with_reducible refine LeO.bind ?_ (fun _ => ?_))
   | exact ih0 _ _
   | exact LeO.none _
   | refine LeO.ite ?_ ?_
   | refine LeO.bind ?_ (fun _ => ?_)
theorem coder_carry.mono : ∀ a0 k, LeO (coder_carry.f k a0) (coder_carry.f (k + 1) a0) := by
 intro a0 k; have ih0 := coder_carry.mono_l k; unfold coder_carry.f
 repeat' first
   | (with_reducible exact ih0 _ _)
   | (with_reducible exact LeO.refl _)
   | (with_reducible exact LeO.none _)
   | (with_reducible refine LeO.ite ?_ ?_)
   | (with_reducible refine LeO.bind ?_ (fun _ => ?_))
   | exact ih0 _ _
   | exact LeO.none _
   | refine LeO.ite ?_ ?_
   | refine LeO.bind ?_ (fun _ => ?_)
/-! ### coder_Put: function 60 -/
mutual
def coder_Put.j0 : Nat → Int → Int → Int → List Int → Option (Int × Int × List Int × Int)
 | 0, _, _, _, _ => none
 | k + 1, x10, x145000, x145001, x145002 => coder_Put.l0 k x10 x145000 x145001 x145002
def coder_Put.l0 : Nat → Int → Int → Int → List Int → Option (Int × Int × List Int × Int)
 | 0, _, _, _, _ => none
 | k + 1, x10, x145000, x145001, x145002 => if x10 < 16777216 then (if x145002.length < 140737488355328 then (coder_Put.l0 k ((x10 * 256) % 4294967296) (Go.bits .and .u64 (IntKind.u64.wrap (x145000 * 256)) 4294967295) x145001 (x145002 ++ [(x145000 / 16777216) % 256])) else (none)) else (some (x145000, x10, x145002, 0))
end
def coder_Put.f (k : Nat) (a0_0 : Int) (a0_1 : Int) (l0_2 : List Int) (a1 : Int) (a2 : Int) (a3 : Int) : Option (Int × Int × List Int × Int) := (coder_own.f a0_0 a0_1 l0_2).bind fun bt146 => ((coder_fair.f a1 a2 a3).bind fun t151 => (if t151 = true then (if (bt146.2.2.length : Int) ≥ 3996 then (some (bt146.1, bt146.2.1, bt146.2.2, 3)) else ((coder_part.f bt146.2.1 a1 a2 a3).bind fun bt152 => (if (IntKind.u64.wrap (bt146.1 + bt152.2)) > 4294967295 then ((coder_carry.f k bt146.2.2).bind fun t154 => (coder_Put.j0 k bt152.1 (Go.bits .and .u64 (IntKind.u64.wrap (bt146.1 + bt152.2)) 4294967295) bt146.2.1 t154)) else (coder_Put.j0 k bt152.1 (IntKind.u64.wrap (bt146.1 + bt152.2)) bt146.2.1 bt146.2.2)))) else (some (bt146.1, bt146.2.1, bt146.2.2, 1))))
theorem coder_Put.mono_l : ∀ k, (∀ y0 y1 y2 y3, LeO (coder_Put.j0 k y0 y1 y2 y3) (coder_Put.j0 (k + 1) y0 y1 y2 y3)) ∧ (∀ y0 y1 y2 y3, LeO (coder_Put.l0 k y0 y1 y2 y3) (coder_Put.l0 (k + 1) y0 y1 y2 y3))
 | 0 => ⟨fun _ _ _ _ r h => by simp [coder_Put.j0] at h, fun _ _ _ _ r h => by simp [coder_Put.l0] at h⟩
 | k + 1 => by
  obtain ⟨ih0, ih1⟩ := coder_Put.mono_l k; refine ⟨?_, ?_⟩
  ·intro y0 y1 y2 y3; unfold coder_Put.j0
   repeat' first
   | (with_reducible exact ih0 _ _ _ _)
   | (with_reducible exact ih1 _ _ _ _)
   | (with_reducible exact coder_carry.mono _ _)
   | (with_reducible exact LeO.refl _)
   | (with_reducible exact LeO.none _)
   | (with_reducible refine LeO.ite ?_ ?_)
   | (with_reducible refine LeO.bind ?_ (fun _ => ?_))
   | exact ih0 _ _ _ _
   | exact ih1 _ _ _ _
   | exact coder_carry.mono _ _
   | exact LeO.none _
   | refine LeO.ite ?_ ?_
   | refine LeO.bind ?_ (fun _ => ?_)
  ·intro y0 y1 y2 y3; unfold coder_Put.l0
   repeat' first
   | (with_reducible exact ih0 _ _ _ _)
   | (with_reducible exact ih1 _ _ _ _)
   | (with_reducible exact coder_carry.mono _ _)
   | (with_reducible exact LeO.refl _)
   | (with_reducible exact LeO.none _)
   | (with_reducible refine LeO.ite ?_ ?_)
   | (with_reducible refine LeO.bind ?_ (fun _ => ?_))
   | exact ih0 _ _ _ _
   | exact ih1 _ _ _ _
   | exact coder_carry.mono _ _
   | exact LeO.none _
   | refine LeO.ite ?_ ?_
   | refine LeO.bind ?_ (fun _ => ?_)
theorem coder_Put.mono : ∀ a0 a1 a2 a3 a4 a5 k, LeO (coder_Put.f k a0 a1 a2 a3 a4 a5) (coder_Put.f (k + 1) a0 a1 a2 a3 a4 a5) := by
 intro a0 a1 a2 a3 a4 a5 k; obtain ⟨ih0, ih1⟩ := coder_Put.mono_l k; unfold coder_Put.f
 repeat' first
   | (with_reducible exact ih0 _ _ _ _)
   | (with_reducible exact ih1 _ _ _ _)
   | (with_reducible exact coder_carry.mono _ _)
   | (with_reducible exact LeO.refl _)
   | (with_reducible exact LeO.none _)
   | (with_reducible refine LeO.ite ?_ ?_)
   | (with_reducible refine LeO.bind ?_ (fun _ => ?_))
   | exact ih0 _ _ _ _
   | exact ih1 _ _ _ _
   | exact coder_carry.mono _ _
   | exact LeO.none _
   | refine LeO.ite ?_ ?_
   | refine LeO.bind ?_ (fun _ => ?_)
/-! ### coder_halves: function 118 -/
def coder_halves.f (a0 : Int) : Option (Int × Int) := if a0 ≤ 65536 then (some (wrap64 (a0), 1)) else (some (wrap64 ((wrap64 (IntKind.u64.wrap (Int.tdiv (IntKind.u64.wrap (a0 - 1)) 65536))) + 1), 65536))
end Go.Proofs.Ytgknajladloffaa.Q
