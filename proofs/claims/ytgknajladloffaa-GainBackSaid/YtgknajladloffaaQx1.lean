-- by a program of this session (wip/myprint.py)
import Derived.Test.YtgknajladloffaaDx1
import Derived.Test.YtgknajladloffaaQx0
namespace Go.Proofs.Ytgknajladloffaa.Q
open Go.RowKit Go.Proofs.YtgknajladloffaaW.PrintWords Go.Proofs.YtgknajladloffaaW.PrintLast Go.Proofs.YtgknajladloffaaW.PrintMore
attribute [local go_sem] max2_int min2_int max_two min_two max_three min_three max_four min_four   -- for this text's walks alone
set_option linter.unusedVariables false
set_option linter.unusedSimpArgs false

/-! ### gain_Right: function 85 -/
set_option maxHeartbeats 8000000 in
set_option maxRecDepth 100000 in
theorem gain_Right.calls (k : Nat) (A0 : Option Addr) (c0 : Nat) (l0 : List Int) (r : Bool) (w : World) (hr0 : Kd.C (Kd.int .i64) w A0 l0.length l0) (hc0 : l0.length ≤ c0) (h : gain_Right.f k l0 = some r) :
  Calls Try.prog 85 #[.slice A0 l0.length c0] w fun e w' => e = .returned (.bool r) ∧ Drawn0 w w' := by
 have HR0 := Am hr0; have HC0 := Am hc0; clear hr0 hc0; have H : (gain_Right.l0 k l0 l0 (l0.length : Int) 0) = some r := h; clear h; have H' := Am H; clear H
 go_enter Try.func85, Try.ntmps85
 go_wp2
 go_loopg [7] k (fun kq v7 w' => ∃ (x7_1 : Int), v7 = .int .i64 x7_1 ∧ Aside0 (gain_Right.l0 kq l0 l0 (l0.length : Int) x7_1 = some r) ∧ Aside0 (kq ≤ k) ∧ Drawn0 w w')
 case atStart => exact ⟨(0), rs_, H', ⟨Nat.le_refl _⟩, by repeat (first | exact Drawn0.refl _ | apply Drawn0.step)⟩
 case round =>
  clear H'; obtain ⟨x7_1, rfl, HA, HK1, ⟨m1, rfl⟩⟩ := hrel
  cases gk with
  | zero => exact absurd HA.out (by simp [gain_Right.l0])
  | succ k1 =>
   have H := HA.out; clear HA; simp only [gain_Right.l0] at H
   by_cases c2 : x7_1 < (l0.length : Int)
   ·rw [if_pos c2] at H; have c2b0 : decide (x7_1 < (l0.length : Int)) = true := decide_eq_true c2; clear c2
    by_cases c3 : 0 ≤ x7_1
    ·rw [if_pos c3] at H; have c3b0 : decide (0 ≤ x7_1) = true := decide_eq_true c3; clear c3
     by_cases c4 : x7_1 < (l0.length : Int)
     ·rw [if_pos c4] at H; have c4b0 : decide (x7_1 < (l0.length : Int)) = true := decide_eq_true c4; clear c4
      by_cases c5 : (rd l0 x7_1) < 0
      ·rw [if_pos c5] at H; have c5b0 : decide ((rd l0 x7_1) < 0) = true := decide_eq_true c5; clear c5; obtain rfl := Option.some.inj H; have p107 : 0 ≤ (x7_1 : Int) := of_decide_eq_true as_; have q107 : x7_1 < (l0.length : Int) := of_decide_eq_true as_; obtain ⟨ad107, e107, hx107_0⟩ := Kd.at_int HR0.out x7_1 p107 q107
       cases e107
       replace p107 := eq_true p107; replace q107 := eq_true q107
       go_wp2
       go_ret
       exact ⟨by first | rfl | (simp; done) | (simp [*]; done), by repeat (first | exact Drawn0.refl _ | apply Drawn0.step)⟩
      ·rw [if_neg c5] at H; have c5b0 : decide ((rd l0 x7_1) < 0) = false := decide_eq_false c5; clear c5
       by_cases c6 : (rd l0 x7_1) > 44
       ·rw [if_pos c6] at H; have c6b0 : decide (44 < (rd l0 x7_1)) = true := decide_eq_true c6; clear c6; obtain rfl := Option.some.inj H; have p107 : 0 ≤ (x7_1 : Int) := of_decide_eq_true as_; have q107 : x7_1 < (l0.length : Int) := of_decide_eq_true as_; obtain ⟨ad107, e107, hx107_0⟩ := Kd.at_int HR0.out x7_1 p107 q107
        cases e107
        replace p107 := eq_true p107; replace q107 := eq_true q107
        go_wp2
        go_ret
        exact ⟨by first | rfl | (simp; done) | (simp [*]; done), by repeat (first | exact Drawn0.refl _ | apply Drawn0.step)⟩
       ·rw [if_neg c6] at H; have c6b0 : decide (44 < (rd l0 x7_1)) = false := decide_eq_false c6; clear c6; have H' := Am H; clear H; have p107 : 0 ≤ (x7_1 : Int) := of_decide_eq_true as_; have q107 : x7_1 < (l0.length : Int) := of_decide_eq_true as_; obtain ⟨ad107, e107, hx107_0⟩ := Kd.at_int HR0.out x7_1 p107 q107
        cases e107
        replace p107 := eq_true p107; replace q107 := eq_true q107
        go_wp2
        go_roundg k1
        case measure => have := HK1.out; omega
        case rel => exact ⟨(wrap64 (x7_1 + 1)), rs_, H', ⟨by have := HK1.out; omega⟩, by repeat (first | exact Drawn0.refl _ | apply Drawn0.step)⟩
     ·rw [if_neg c4] at H; exact absurd H (by simp)
    ·rw [if_neg c3] at H; exact absurd H (by simp)
   ·rw [if_neg c2] at H; have c2b0 : decide (x7_1 < (l0.length : Int)) = false := decide_eq_false c2; clear c2; obtain rfl := Option.some.inj H
    go_wp2
    go_ret
    exact ⟨by first | rfl | (simp; done) | (simp [*]; done), by repeat (first | exact Drawn0.refl _ | apply Drawn0.step)⟩

/-! ### gain_Most: function 39 -/
set_option maxHeartbeats 8000000 in
set_option maxRecDepth 100000 in
theorem gain_Most.calls (a0 : Bool) (r : Int) (w : World) (h : gain_Most.f a0 = some r) :
  Calls Try.prog 39 #[.bool a0] w fun e w' => e = .returned (.int .i64 r) ∧ Below w.heap.size w w' := by
 have HB := Am (Below.refl w.heap.size w); have H : (if a0 = true then (some 30) else (some 45)) = some r := h; clear h
 by_cases c2 : a0 = true
 ·subst c2; have H1 : (some 30) = some r := by rw [if_pos rfl] at H; exact H
  clear H; have H := H1; clear H1; obtain rfl := Option.some.inj H
  go_enter Try.func39, Try.ntmps39
  go_wp2
  go_ret
  exact ⟨by first | rfl | (simp [errW_none, errW_some] <;> rfl) | (simp [*, errW_none, errW_some] <;> rfl), bB HB.out⟩
 ·replace c2 := Bool.eq_false_iff.mpr c2; subst c2; have H1 : (some 45) = some r := by rw [if_neg (show ¬ (false = true) by decide)] at H; exact H
  clear H; have H := H1; clear H1; obtain rfl := Option.some.inj H
  go_enter Try.func39, Try.ntmps39
  go_wp2
  go_ret
  exact ⟨by first | rfl | (simp [errW_none, errW_some] <;> rfl) | (simp [*, errW_none, errW_some] <;> rfl), bB HB.out⟩

/-! ### num_Clamp: function 132 -/
set_option maxHeartbeats 8000000 in
set_option maxRecDepth 100000 in
theorem num_Clamp.calls (a0 : Int) (a1 : Int) (a2 : Int) (r : Int) (w : World) (h : num_Clamp.f a0 a1 a2 = some r) :
  Calls Try.prog 132 #[.int .i64 a0, .int .i64 a1, .int .i64 a2] w fun e w' => e = .returned (.int .i64 r) ∧ Drawn0 w w' := by
 have H : (if a0 < a1 then (some a1) else (if a0 > a2 then (some a2) else (some a0))) = some r := h; clear h
 by_cases c4 : a0 < a1
 ·rw [if_pos c4] at H; have c4b0 : decide (a0 < a1) = true := decide_eq_true c4; clear c4; obtain rfl := Option.some.inj H
  go_enter Try.func132, Try.ntmps132
  go_wp2
  go_ret
  exact ⟨by first | rfl | (simp; done) | (simp [*]; done), by repeat (first | exact Drawn0.refl _ | apply Drawn0.step)⟩
 ·rw [if_neg c4] at H; have c4b0 : decide (a0 < a1) = false := decide_eq_false c4; clear c4
  by_cases c5 : a0 > a2
  ·rw [if_pos c5] at H; have c5b0 : decide (a2 < a0) = true := decide_eq_true c5; clear c5; obtain rfl := Option.some.inj H
   go_enter Try.func132, Try.ntmps132
   go_wp2
   go_ret
   exact ⟨by first | rfl | (simp; done) | (simp [*]; done), by repeat (first | exact Drawn0.refl _ | apply Drawn0.step)⟩
  ·rw [if_neg c5] at H; have c5b0 : decide (a2 < a0) = false := decide_eq_false c5; clear c5; obtain rfl := Option.some.inj H
   go_enter Try.func132, Try.ntmps132
   go_wp2
   go_ret
   exact ⟨by first | rfl | (simp; done) | (simp [*]; done), by repeat (first | exact Drawn0.refl _ | apply Drawn0.step)⟩

/-! ### psalteryref06_Same: function 37 -/
set_option maxHeartbeats 8000000 in
set_option maxRecDepth 100000 in
theorem psalteryref06_Same.calls (k : Nat) (A0 : Option Addr) (c0 : Nat) (l0 : List Int) (A1 : Option Addr) (c1 : Nat) (l1 : List Int) (r : Bool) (w : World) (hr0 : Kd.C (Kd.int .i64) w A0 l0.length l0) (hc0 : l0.length ≤ c0) (hr1 : Kd.C (Kd.int .i64) w A1 l1.length l1) (hc1 : l1.length ≤ c1) (h : psalteryref06_Same.f k l0 l1 = some r) :
  Calls Try.prog 37 #[.slice A0 l0.length c0, .slice A1 l1.length c1] w fun e w' => e = .returned (.bool r) ∧ Drawn0 w w' := by
 have HR0 := Am hr0; have HC0 := Am hc0; clear hr0 hc0; have HR1 := Am hr1; have HC1 := Am hc1; clear hr1 hc1; have H : (if (l0.length : Int) = (l1.length : Int) then (psalteryref06_Same.l0 k l0 l1 0) else (some false)) = some r := h; clear h
 by_cases c3 : (l0.length : Int) = (l1.length : Int)
 ·rw [if_pos c3] at H; have c3b0 : ((l0.length : Int) == (l1.length : Int)) = true := beq_iff_eq.mpr c3; have c3b1 : ((l0.length : Int) != (l1.length : Int)) = false := bne_eq_false_iff_eq.mpr c3; have c3b2 : (l0.length == l1.length) = true := by first | simpa using c3 | (simp at c3 ⊢; omega)
  clear c3; have H' := Am H; clear H
  go_enter Try.func37, Try.ntmps37
  go_wp2
  repeat (go_quiet (fail); try go_wp2)
  go_loopg [5] k (fun kq v5 w' => ∃ (x5_1 : Int), v5 = .int .i64 x5_1 ∧ Aside0 (psalteryref06_Same.l0 kq l0 l1 x5_1 = some r) ∧ Aside0 (kq ≤ k) ∧ Drawn0 w w')
  case atStart => exact ⟨(0), rs_, H', ⟨Nat.le_refl _⟩, by repeat (first | exact Drawn0.refl _ | apply Drawn0.step)⟩
  case round =>
   clear H'; try clear c1
   try clear p2
   try clear c3
   try clear c3b0
   try clear c3b1
   try clear c3b2
   obtain ⟨x5_1, rfl, HA, HK1, ⟨m1, rfl⟩⟩ := hrel
   cases gk with
   | zero => exact absurd HA.out (by simp [psalteryref06_Same.l0])
   | succ k1 =>
    have H := HA.out; clear HA; simp only [psalteryref06_Same.l0] at H
    by_cases c4 : x5_1 < (l0.length : Int)
    ·rw [if_pos c4] at H; have c4b0 : decide (x5_1 < (l0.length : Int)) = true := decide_eq_true c4; clear c4
     by_cases c5 : 0 ≤ x5_1
     ·rw [if_pos c5] at H; have c5b0 : decide (0 ≤ x5_1) = true := decide_eq_true c5; clear c5
      by_cases c6 : x5_1 < (l1.length : Int)
      ·rw [if_pos c6] at H; have c6b0 : decide (x5_1 < (l1.length : Int)) = true := decide_eq_true c6; clear c6
       by_cases c7 : (rd l0 x5_1) = (rd l1 x5_1)
       ·rw [if_pos c7] at H; have c7b0 : ((rd l0 x5_1) == (rd l1 x5_1)) = true := beq_iff_eq.mpr c7; have c7b1 : ((rd l0 x5_1) != (rd l1 x5_1)) = false := bne_eq_false_iff_eq.mpr c7; clear c7; have H' := Am H; clear H; have p410 : 0 ≤ (x5_1 : Int) := of_decide_eq_true as_; have q410 : x5_1 < (l0.length : Int) := of_decide_eq_true as_; obtain ⟨ad410, e410, hx410_0⟩ := Kd.at_int HR0.out x5_1 p410 q410
        cases e410
        replace p410 := eq_true p410; replace q410 := eq_true q410; have p411 : 0 ≤ (x5_1 : Int) := of_decide_eq_true as_; have q411 : x5_1 < (l1.length : Int) := of_decide_eq_true as_; obtain ⟨ad411, e411, hx411_0⟩ := Kd.at_int HR1.out x5_1 p411 q411
        cases e411
        replace p411 := eq_true p411; replace q411 := eq_true q411
        go_wp2
        repeat (go_quiet (fail); try go_wp2)
        go_roundg k1
        case measure => have := HK1.out; omega
        case rel => exact ⟨(wrap64 (x5_1 + 1)), rs_, H', ⟨by have := HK1.out; omega⟩, by repeat (first | exact Drawn0.refl _ | apply Drawn0.step)⟩
       ·rw [if_neg c7] at H; have c7b0 : ((rd l0 x5_1) == (rd l1 x5_1)) = false := beq_eq_false_iff_ne.mpr c7; have c7b1 : ((rd l0 x5_1) != (rd l1 x5_1)) = true := bne_iff_ne.mpr c7; obtain rfl := Option.some.inj H; have p410 : 0 ≤ (x5_1 : Int) := of_decide_eq_true as_; have q410 : x5_1 < (l0.length : Int) := of_decide_eq_true as_; obtain ⟨ad410, e410, hx410_0⟩ := Kd.at_int HR0.out x5_1 p410 q410
        cases e410
        replace p410 := eq_true p410; replace q410 := eq_true q410; have p411 : 0 ≤ (x5_1 : Int) := of_decide_eq_true as_; have q411 : x5_1 < (l1.length : Int) := of_decide_eq_true as_; obtain ⟨ad411, e411, hx411_0⟩ := Kd.at_int HR1.out x5_1 p411 q411
        cases e411
        replace p411 := eq_true p411; replace q411 := eq_true q411
        go_wp2
        repeat (go_quiet (fail); try go_wp2)
        go_ret
        exact ⟨by first | rfl | (simp; done) | (simp [*]; done), by repeat (first | exact Drawn0.refl _ | apply Drawn0.step)⟩
      ·rw [if_neg c6] at H; exact absurd H (by simp)
     ·rw [if_neg c5] at H; exact absurd H (by simp)
    ·rw [if_neg c4] at H; have c4b0 : decide (x5_1 < (l0.length : Int)) = false := decide_eq_false c4; clear c4; obtain rfl := Option.some.inj H
     go_wp2
     repeat (go_quiet (fail); try go_wp2)
     go_ret
     exact ⟨by first | rfl | (simp; done) | (simp [*]; done), by repeat (first | exact Drawn0.refl _ | apply Drawn0.step)⟩
 ·rw [if_neg c3] at H; have c3b0 : ((l0.length : Int) == (l1.length : Int)) = false := beq_eq_false_iff_ne.mpr c3; have c3b1 : ((l0.length : Int) != (l1.length : Int)) = true := bne_iff_ne.mpr c3; have c3b2 : (l0.length == l1.length) = false := by first | simpa using c3 | (simp at c3 ⊢; omega)
  obtain rfl := Option.some.inj H
  go_enter Try.func37, Try.ntmps37
  go_wp2
  repeat (go_quiet (fail); try go_wp2)
  go_ret
  exact ⟨by first | rfl | (simp; done) | (simp [*]; done), by repeat (first | exact Drawn0.refl _ | apply Drawn0.step)⟩

end Go.Proofs.Ytgknajladloffaa.Q
