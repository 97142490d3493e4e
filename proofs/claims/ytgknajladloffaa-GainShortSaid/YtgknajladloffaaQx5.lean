-- by a program of this session (wip/myprint.py)
import Derived.Test.YtgknajladloffaaDx5
import Derived.Test.YtgknajladloffaaQx0
namespace Go.Proofs.Ytgknajladloffaa.Q
open Go.RowKit Go.Proofs.YtgknajladloffaaW.PrintWords Go.Proofs.YtgknajladloffaaW.PrintLast Go.Proofs.YtgknajladloffaaW.PrintMore
attribute [local go_sem] max2_int min2_int max_two min_two max_three min_three max_four min_four   -- for this text's walks alone
set_option linter.unusedVariables false
set_option linter.unusedSimpArgs false

/-! ### coder_New: function 32 -/
set_option maxHeartbeats 8000000 in
set_option maxRecDepth 100000 in
theorem coder_New.calls  (r1 : Int) (r2 : Int) (r3 : List Int) (w : World) (h : coder_New.f  = some (r1, r2, r3)) :
  Calls Try.prog 32 #[] w fun e w' => ∃ v2_ : Value, e = .returned (.agg #[.int .u64 r1, .int .u32 r2, v2_]) ∧ Kd.R (Kd.int .u8) 5 w' w.heap.size (fun _ => True) v2_ r3 ∧ Below w.heap.size w w' := by
 have hu52 := Try.underlying52
 have HB := Am (Below.refl w.heap.size w)
 have H : (some (0, 4294967295, ([] : List Int))) = some (r1, r2, r3) := h
 clear h
 simp only [Option.some.injEq, Prod.mk.injEq] at H
 obtain ⟨rfl, rfl, rfl⟩ := H
 go_enter Try.func32, Try.ntmps32
 go_wp2_with (first | ((with_reducible refine gate_dst (N := 0) rfl ?_); refine box_event ?hg (N := 0) ?hd (cs := #[.int .u64 0, .int .u32 0, .slice none 0 0]) (t := 52) ?hr ?_; (case hd => rfl); (case hg => rfl); (case hr => first | (go_simp; done) | (go_simp; rfl)); intro gb125 hg w1 hbox hb; have n0_ := Am (below_step (bB HB.out) hb); have n1_ := Am (hbox); have n2_ := Am ((by rw [hg]; exact (below_size (bB HB.out)) : w.heap.size ≤ gb125)); have n3_ := Am ((by rw [hg]; exact (below_size (bB HB.out)) : w.heap.size ≤ gb125)); clear HB; have HB := n0_; have BK125 := n1_; have GW125 := n2_; have GE125 := n3_; clear n0_ n1_ n2_ n3_; clear hb hbox hg; have hcz2_0 : w1.cell? ⟨gb125, 0, none⟩ = some (.int .u64 0) := (blk_cell BK125.out 0).trans rfl; have hcz2_1 : w1.cell? ⟨gb125, 1, none⟩ = some (.int .u32 0) := (blk_cell BK125.out 1).trans rfl; have hcz2_2 : w1.cell? ⟨gb125, 2, none⟩ = some (.slice none 0 0) := (blk_cell BK125.out 2).trans rfl; have hfz2_0 := blk_frozen BK125.out 0; have hfz2_1 := blk_frozen BK125.out 1; have hfz2_2 := blk_frozen BK125.out 2))
 refine bodyPost_ret (results_cell_row rfl _ _ gb125 52 #[.int .u64 0, .int .u32 4294967295, .slice none 0 0] (0, 0) _ rfl (by (with_reducible repeat (first | refine blk_drewN ?_ _ | refine blk_drew ?_ | refine blk_alloc ?_ _)); refine blk_put (cs := #[.int .u64 0, .int .u32 4294967295, .slice none 0 0]) ?_ 2 _ rfl; (with_reducible repeat (first | refine blk_drewN ?_ _ | refine blk_drew ?_ | refine blk_alloc ?_ _)); refine blk_put (cs := #[.int .u64 0, .int .u32 0, .slice none 0 0]) ?_ 1 _ rfl; (with_reducible repeat (first | refine blk_drewN ?_ _ | refine blk_drew ?_ | refine blk_alloc ?_ _)); refine blk_put (cs := #[.int .u64 0, .int .u32 0, .slice none 0 0]) ?_ 0 _ rfl; (with_reducible repeat (first | refine blk_drewN ?_ _ | refine blk_drew ?_ | refine blk_alloc ?_ _)); exact BK125.out) Try.underlying52 rfl (by kernel_rfl)) rfl ?_
 exact ⟨_, by first | rfl | (simp [errW_none, errW_some] <;> rfl) | (simp [*, errW_none, errW_some] <;> rfl), by first | exact Kd.R_nil _ _ _ _ _ | exact Kd.N_nil _ _ _ _ _ | exact Kd.V_nil _ _ _ _ _ | exact Kd.Q_nil _ _ _ _ _ | exact Kd.S_nil _ _ _ _ _, bB HB.out⟩

/-! ### coder_RightEnc: function 133 -/
set_option maxHeartbeats 8000000 in
set_option maxRecDepth 100000 in
theorem coder_RightEnc.calls (a0_0 : Int) (a0_1 : Int) (A0_2 : Option Addr) (c0_2 : Nat) (l0_2 : List Int) (r : Bool) (w : World) (hr0_2 : Kd.C (Kd.int .u8) w A0_2 l0_2.length l0_2) (hc0_2 : l0_2.length ≤ c0_2) (h : coder_RightEnc.f a0_0 a0_1 l0_2 = some r) :
  Calls Try.prog 133 #[.agg #[.int .u64 a0_0, .int .u32 a0_1, .slice A0_2 l0_2.length c0_2]] w fun e w' => e = .returned (.bool r) ∧ Below w.heap.size w w' := by
 have hu52 := Try.underlying52
 have HR0_2 := Am hr0_2
 have HC0_2 := Am hc0_2
 clear hr0_2 hc0_2
 have HB := Am (Below.refl w.heap.size w)
 have H : (if a0_0 ≤ 4294967295 then (if a0_1 ≥ 16777216 then (some (decide ((l0_2.length : Int) ≤ 4000))) else (some false)) else (some false)) = some r := h
 clear h
 by_cases c2 : a0_0 ≤ 4294967295
 ·rw [if_pos c2] at H
  have c2b0 : decide (a0_0 ≤ 4294967295) = true := decide_eq_true c2
  clear c2
  by_cases c3 : a0_1 ≥ 16777216
  ·rw [if_pos c3] at H
   have c3b0 : decide (16777216 ≤ a0_1) = true := decide_eq_true c3
   clear c3
   obtain rfl := Option.some.inj H
   go_enter Try.func133, Try.ntmps133
   go_wp2_with (first | ((with_reducible refine gate_dst (N := 1) rfl ?_); refine box_event ?hg (N := 1) ?hd (cs := #[.int .u64 a0_0, .int .u32 a0_1, .slice A0_2 l0_2.length c0_2]) (t := 52) ?hr ?_; (case hd => rfl); (case hg => rfl); (case hr => first | (go_simp; done) | (go_simp; rfl)); intro gb126 hg w4 hbox hb; have n0_ := Am (below_step (bB HB.out) hb); have n1_ := Am (hbox); have n2_ := Am ((by rw [hg]; exact (below_size (bB HB.out)) : w.heap.size ≤ gb126)); have n3_ := Am ((by rw [hg]; exact (below_size (bB HB.out)) : w.heap.size ≤ gb126)); clear HB; have HB := n0_; have BK126 := n1_; have GW126 := n2_; have GE126 := n3_; clear n0_ n1_ n2_ n3_; clear hb hbox hg; have hcz5_0 : w4.cell? ⟨gb126, 0, none⟩ = some (.int .u64 a0_0) := (blk_cell BK126.out 0).trans rfl; have hcz5_1 : w4.cell? ⟨gb126, 1, none⟩ = some (.int .u32 a0_1) := (blk_cell BK126.out 1).trans rfl; have hcz5_2 : w4.cell? ⟨gb126, 2, none⟩ = some (.slice A0_2 l0_2.length c0_2) := (blk_cell BK126.out 2).trans rfl; have hfz5_0 := blk_frozen BK126.out 0; have hfz5_1 := blk_frozen BK126.out 1; have hfz5_2 := blk_frozen BK126.out 2))
   go_ret
   exact ⟨by first | rfl | (simp [errW_none, errW_some] <;> rfl) | (simp [*, errW_none, errW_some] <;> rfl), bB HB.out⟩
  ·rw [if_neg c3] at H
   have c3b0 : decide (16777216 ≤ a0_1) = false := decide_eq_false c3
   clear c3
   obtain rfl := Option.some.inj H
   go_enter Try.func133, Try.ntmps133
   go_wp2_with (first | ((with_reducible refine gate_dst (N := 1) rfl ?_); refine box_event ?hg (N := 1) ?hd (cs := #[.int .u64 a0_0, .int .u32 a0_1, .slice A0_2 l0_2.length c0_2]) (t := 52) ?hr ?_; (case hd => rfl); (case hg => rfl); (case hr => first | (go_simp; done) | (go_simp; rfl)); intro gb126 hg w6 hbox hb; have n0_ := Am (below_step (bB HB.out) hb); have n1_ := Am (hbox); have n2_ := Am ((by rw [hg]; exact (below_size (bB HB.out)) : w.heap.size ≤ gb126)); have n3_ := Am ((by rw [hg]; exact (below_size (bB HB.out)) : w.heap.size ≤ gb126)); clear HB; have HB := n0_; have BK126 := n1_; have GW126 := n2_; have GE126 := n3_; clear n0_ n1_ n2_ n3_; clear hb hbox hg; have hcz7_0 : w6.cell? ⟨gb126, 0, none⟩ = some (.int .u64 a0_0) := (blk_cell BK126.out 0).trans rfl; have hcz7_1 : w6.cell? ⟨gb126, 1, none⟩ = some (.int .u32 a0_1) := (blk_cell BK126.out 1).trans rfl; have hcz7_2 : w6.cell? ⟨gb126, 2, none⟩ = some (.slice A0_2 l0_2.length c0_2) := (blk_cell BK126.out 2).trans rfl; have hfz7_0 := blk_frozen BK126.out 0; have hfz7_1 := blk_frozen BK126.out 1; have hfz7_2 := blk_frozen BK126.out 2))
   go_ret
   exact ⟨by first | rfl | (simp [errW_none, errW_some] <;> rfl) | (simp [*, errW_none, errW_some] <;> rfl), bB HB.out⟩
 ·rw [if_neg c2] at H
  have c2b0 : decide (a0_0 ≤ 4294967295) = false := decide_eq_false c2
  clear c2
  obtain rfl := Option.some.inj H
  go_enter Try.func133, Try.ntmps133
  go_wp2_with (first | ((with_reducible refine gate_dst (N := 1) rfl ?_); refine box_event ?hg (N := 1) ?hd (cs := #[.int .u64 a0_0, .int .u32 a0_1, .slice A0_2 l0_2.length c0_2]) (t := 52) ?hr ?_; (case hd => rfl); (case hg => rfl); (case hr => first | (go_simp; done) | (go_simp; rfl)); intro gb126 hg w8 hbox hb; have n0_ := Am (below_step (bB HB.out) hb); have n1_ := Am (hbox); have n2_ := Am ((by rw [hg]; exact (below_size (bB HB.out)) : w.heap.size ≤ gb126)); have n3_ := Am ((by rw [hg]; exact (below_size (bB HB.out)) : w.heap.size ≤ gb126)); clear HB; have HB := n0_; have BK126 := n1_; have GW126 := n2_; have GE126 := n3_; clear n0_ n1_ n2_ n3_; clear hb hbox hg; have hcz9_0 : w8.cell? ⟨gb126, 0, none⟩ = some (.int .u64 a0_0) := (blk_cell BK126.out 0).trans rfl; have hcz9_1 : w8.cell? ⟨gb126, 1, none⟩ = some (.int .u32 a0_1) := (blk_cell BK126.out 1).trans rfl; have hcz9_2 : w8.cell? ⟨gb126, 2, none⟩ = some (.slice A0_2 l0_2.length c0_2) := (blk_cell BK126.out 2).trans rfl; have hfz9_0 := blk_frozen BK126.out 0; have hfz9_1 := blk_frozen BK126.out 1; have hfz9_2 := blk_frozen BK126.out 2))
  go_ret
  exact ⟨by first | rfl | (simp [errW_none, errW_some] <;> rfl) | (simp [*, errW_none, errW_some] <;> rfl), bB HB.out⟩

/-! ### coder_own: function 88 -/
set_option maxHeartbeats 8000000 in
set_option maxRecDepth 100000 in
theorem coder_own.calls (a0_0 : Int) (a0_1 : Int) (A0_2 : Option Addr) (c0_2 : Nat) (l0_2 : List Int) (r1 : Int) (r2 : Int) (r3 : List Int) (w : World) (hr0_2 : Kd.C (Kd.int .u8) w A0_2 l0_2.length l0_2) (hc0_2 : l0_2.length ≤ c0_2) (h : coder_own.f a0_0 a0_1 l0_2 = some (r1, r2, r3)) :
  Calls Try.prog 88 #[.agg #[.int .u64 a0_0, .int .u32 a0_1, .slice A0_2 l0_2.length c0_2]] w fun e w' => ∃ v2_ : Value, e = .returned (.agg #[.int .u64 r1, .int .u32 r2, v2_]) ∧ Kd.R (Kd.int .u8) 5 w' w.heap.size (fun _ => True) v2_ r3 ∧ Below w.heap.size w w' := by
 have hu52 := Try.underlying52
 have HR0_2 := Am hr0_2
 have HC0_2 := Am hc0_2
 clear hr0_2 hc0_2
 have HB := Am (Below.refl w.heap.size w)
 have H : ((coder_RightEnc.f a0_0 a0_1 l0_2).bind fun t129 => (if t129 = true then ((some (([] : List Int) : List Int)).bind fun y130 => (if y130.length + l0_2.length < 140737488355328 then (some (a0_0, a0_1, (y130 ++ l0_2))) else (none))) else ((coder_New.f).bind fun bt136 => (some (bt136.1, bt136.2.1, bt136.2.2))))) = some (r1, r2, r3) := h
 clear h
 replace H := Option.bind_eq_some_iff.mp H
 obtain ⟨t129, A20, H⟩ := H
 replace H : (if t129 = true then ((some (([] : List Int) : List Int)).bind fun y130 => (if y130.length + l0_2.length < 140737488355328 then (some (a0_0, a0_1, (y130 ++ l0_2))) else (none))) else ((coder_New.f).bind fun bt136 => (some (bt136.1, bt136.2.1, bt136.2.2)))) = some (r1, r2, r3) := H
 have A2 := Am A20
 clear A20
 by_cases c3 : t129 = true
 ·subst c3
  have H1 : ((some (([] : List Int) : List Int)).bind fun y130 => (if y130.length + l0_2.length < 140737488355328 then (some (a0_0, a0_1, (y130 ++ l0_2))) else (none))) = some (r1, r2, r3) := by rw [if_pos rfl] at H; exact H
  clear H
  have H := H1
  clear H1
  obtain ⟨y130, hy130⟩ : ∃ y_ : List Int, y_ = (([] : List Int)) := ⟨_, rfl⟩
  replace H : (if y130.length + l0_2.length < 140737488355328 then (some (a0_0, a0_1, (y130 ++ l0_2))) else (none)) = some (r1, r2, r3) := by first | (rw [hy130]; with_reducible exact H) | (have H2_ := (Option.bind_some _ _).symm.trans H; rw [hy130]; with_reducible exact H2_) | (have H2_ := (Option.bind_some _ _).symm.trans H; with_reducible exact H2_) | with_reducible exact H | (rw [hy130]; exact H) | exact H
  have Ny130 := Am hy130
  clear hy130
  by_cases c4 : y130.length + l0_2.length < 140737488355328
  ·rw [if_pos c4] at H
   have LMc4 := Am c4
   clear c4
   obtain ⟨y133, hy133⟩ : ∃ y_ : List Int, y_ = (y130 ++ l0_2) := ⟨_, rfl⟩
   replace H : (some (a0_0, a0_1, y133)) = some (r1, r2, r3) := by first | (rw [hy133]; with_reducible exact H) | (have H2_ := (Option.bind_some _ _).symm.trans H; rw [hy133]; with_reducible exact H2_) | (have H2_ := (Option.bind_some _ _).symm.trans H; with_reducible exact H2_) | with_reducible exact H | (rw [hy133]; exact H) | exact H
   have Ny133 := Am hy133
   clear hy133
   simp only [Option.some.injEq, Prod.mk.injEq] at H
   obtain ⟨rfl, rfl, rfl⟩ := H
   go_enter Try.func88, Try.ntmps88
   go_wp2_with (first | ((with_reducible refine gate_dst (N := 1) rfl ?_); refine box_event ?hg (N := 1) ?hd (cs := #[.int .u64 a0_0, .int .u32 a0_1, .slice A0_2 l0_2.length c0_2]) (t := 52) ?hr ?_; (case hd => rfl); (case hg => rfl); (case hr => first | (go_simp; done) | (go_simp; rfl)); intro gb127 hg w5 hbox hb; have n0_ := Am (below_step (bB HB.out) hb); have n1_ := Am (hbox); have n2_ := Am ((by rw [hg]; exact (below_size (bB HB.out)) : w.heap.size ≤ gb127)); have n3_ := Am ((by rw [hg]; exact (below_size (bB HB.out)) : w.heap.size ≤ gb127)); clear HB; have HB := n0_; have BK127 := n1_; have GW127 := n2_; have GE127 := n3_; clear n0_ n1_ n2_ n3_; clear hb hbox hg) | ((with_reducible refine gate_dst (N := 2) rfl ?_); refine box_event ?hg (N := 2) ?hd (cs := #[.int .u64 0, .int .u32 0, .slice none 0 0]) (t := 52) ?hr ?_; (case hd => rfl); (case hg => rfl); (case hr => first | (go_simp; done) | (go_simp; rfl)); intro gb128 hg w6 hbox hb; have n0_ := Am (blk_below (g := gb127) (o := .cells #[.int .u64 a0_0, .int .u32 a0_1, .slice A0_2 l0_2.length c0_2] 52 (0, 0)) (bK BK127.out) hb); have n1_ := Am (below_step (bB HB.out) hb); have n2_ := Am (hbox); have n3_ := Am ((by rw [hg]; exact (below_size (bB HB.out)) : w.heap.size ≤ gb128)); have n4_ := Am ((by rw [hg]; exact (below_size (bB HB.out)) : w.heap.size ≤ gb128)); have n5_ := Am ((by rw [hg]; exact Nat.ne_of_lt (blk_lt (g := gb127) (o := .cells #[.int .u64 a0_0, .int .u32 a0_1, .slice A0_2 l0_2.length c0_2] 52 (0, 0)) (bK BK127.out)) : gb127 ≠ gb128)); have n6_ := Am ((by rw [hg]; exact Nat.ne_of_gt (blk_lt (g := gb127) (o := .cells #[.int .u64 a0_0, .int .u32 a0_1, .slice A0_2 l0_2.length c0_2] 52 (0, 0)) (bK BK127.out)) : gb128 ≠ gb127)); clear BK127; clear HB; have BK127 := n0_; have HB := n1_; have BK128 := n2_; have GW128 := n3_; have GE128 := n4_; have NB127_128 := n5_; have NB128_127 := n6_; clear n0_ n1_ n2_ n3_ n4_ n5_ n6_; clear hb hbox hg; have hnb7 := NB127_128.out; have hnc7 := NB128_127.out; have hcz8_0 : w6.cell? ⟨gb127, 0, none⟩ = some (.int .u64 a0_0) := (blk_cell BK127.out 0).trans rfl; have hcz8_1 : w6.cell? ⟨gb127, 1, none⟩ = some (.int .u32 a0_1) := (blk_cell BK127.out 1).trans rfl; have hcz8_2 : w6.cell? ⟨gb127, 2, none⟩ = some (.slice A0_2 l0_2.length c0_2) := (blk_cell BK127.out 2).trans rfl; have hfz8_0 := blk_frozen BK127.out 0; have hfz8_1 := blk_frozen BK127.out 1; have hfz8_2 := blk_frozen BK127.out 2) | ((with_reducible refine gate_callee (f := 133) rfl ?_); refine goesL_ (some 4) rfl rfl Try.func133 (by kernel_rfl) rfl #[.agg #[.int .u64 a0_0, .int .u32 a0_1, .slice A0_2 l0_2.length c0_2]] rfl ls_ ?_; (with_reducible refine (coder_RightEnc.calls a0_0 a0_1 _ _ l0_2 true _ ?side1 ?side2 A2.out).mono ?_); (case side1 => repeat (first | exact (Kd.C_below HR0_2.out HB.out) | (with_reducible refine Kd.C_alloc ?_ _) | (with_reducible refine Kd.C_drewN ?_ _) | (with_reducible refine Kd.C_drew ?_))); (case side2 => exact HC0_2.out); rintro e w9 ⟨rfl, hb⟩; refine ⟨_, rfl, ?_⟩; have n0_ := Am (blk_below (g := gb127) (o := .cells #[.int .u64 a0_0, .int .u32 a0_1, .slice A0_2 l0_2.length c0_2] 52 (0, 0)) (bK BK127.out) hb); have n1_ := Am (blk_below (g := gb128) (o := .cells #[.int .u64 0, .int .u32 0, .slice none 0 0] 52 (0, 0)) (bK BK128.out) hb); have n2_ := Am (below_step (bB HB.out) hb); clear BK127; clear BK128; clear HB; have BK127 := n0_; have BK128 := n1_; have HB := n2_; clear n0_ n1_ n2_; (try clear hb); (try clear hb2); (try clear hk); (try clear hi)) | ((with_reducible refine gate_dst (N := 7) rfl ?_); refine Kd.R_lit (Kd.int .u8) _ 5 ?hg (N := 7) ?hd (xs := ([] : List Int)) (inner := []) (ok := fun _ => True) (okp := fun _ => True) ?hr ?hp (fun _ hk => hk) trivial (Below.refl _ _) (Nat.le_refl _) (by simp) ?_; (case hd => rfl); (case hg => rfl); (case hr => first | (go_simp; done) | (go_simp; rfl)); (case hp => exact (Reps.none _ _)); intro v131 w10 ho11 hb hg_ hnew_; clear hg_ hnew_; (first | rw [← Ny130.out] at ho11 | (simp only [Int.reduceToNat] at ho11; rw [← Ny130.out] at ho11)); have n0_ := Am (Kd.R_lower ho11 (below_size (bB HB.out))); have n1_ := Am (blk_below (g := gb127) (o := .cells #[.int .u64 a0_0, .int .u32 a0_1, .slice A0_2 l0_2.length c0_2] 52 (0, 0)) (bK BK127.out) hb); have n2_ := Am (blk_below (g := gb128) (o := .cells #[.int .u64 0, .int .u32 0, .slice none 0 0] 52 (0, 0)) (bK BK128.out) hb); have n3_ := Am (below_step (bB HB.out) hb); clear BK127; clear BK128; clear HB; have HO132 := n0_; have BK127 := n1_; have BK128 := n2_; have HB := n3_; clear n0_ n1_ n2_ n3_; clear hb ho11; have hcz12_0 : w10.cell? ⟨gb127, 0, none⟩ = some (.int .u64 a0_0) := (blk_cell BK127.out 0).trans rfl; have hcz12_1 : w10.cell? ⟨gb127, 1, none⟩ = some (.int .u32 a0_1) := (blk_cell BK127.out 1).trans rfl; have hcz12_2 : w10.cell? ⟨gb127, 2, none⟩ = some (.slice A0_2 l0_2.length c0_2) := (blk_cell BK127.out 2).trans rfl; have hfz12_0 := blk_frozen BK127.out 0; have hfz12_1 := blk_frozen BK127.out 1; have hfz12_2 := blk_frozen BK127.out 2) | ((with_reducible refine gate_builtin (b := .append) (xs := #[.tmp 7, .tmp 9]) rfl ?_); at_builtin; refine Kd.R_append_rows (Kd.int .u8) (w0 := w) w.heap.size rfl (.tmp 7) (.tmp 9) 28 5 (.int .u8 0) 1 rfl Try.underlying28 info5 rfl (by decide) (by omega) v131 y130 l0_2 _ _ _ (fun _ => True) (fun _ => False) rfl rfl ?aO ?aR (fun _ _ h => h) (fun _ h => h.elim) ?aF ?aB ?aS ?aL ?_; (case aR => repeat (first | exact (Kd.C_below HR0_2.out HB.out) | (with_reducible refine Kd.C_alloc ?_ _) | (with_reducible refine Kd.C_drewN ?_ _) | (with_reducible refine Kd.C_drew ?_))); (case aB => exact (bB HB.out)); (case aF => exact (fun _ _ => trivial)); (case aO => exact (kR HO132.out)); (case aS => exact (below_size (bB HB.out))); (case aL => have := LMc4.out; omega); intro v134 w13 ho hb hg hat; rw [← Ny133.out] at ho; have n0_ := Am (blk_grown (g := gb127) (o := .cells #[.int .u64 a0_0, .int .u32 a0_1, .slice A0_2 l0_2.length c0_2] 52 (0, 0)) (bK BK127.out) hg (Kd.R_ne HO132.out BK127.out (by decide))); have n1_ := Am (blk_grown (g := gb128) (o := .cells #[.int .u64 0, .int .u32 0, .slice none 0 0] 52 (0, 0)) (bK BK128.out) hg (Kd.R_ne HO132.out BK128.out (by decide))); have n2_ := Am (hb); have n3_ := Am (ho); clear BK127; clear BK128; clear HB; clear HO132; have BK127 := n0_; have BK128 := n1_; have HB := n2_; have HO135 := n3_; clear n0_ n1_ n2_ n3_; clear ho hb hg hat; obtain ⟨Ao14, co14, eo14⟩ := Kd.R_slice HO135.out; subst eo14; have hcz15_0 : w13.cell? ⟨gb127, 0, none⟩ = some (.int .u64 a0_0) := (blk_cell BK127.out 0).trans rfl; have hcz15_1 : w13.cell? ⟨gb127, 1, none⟩ = some (.int .u32 a0_1) := (blk_cell BK127.out 1).trans rfl; have hcz15_2 : w13.cell? ⟨gb127, 2, none⟩ = some (.slice A0_2 l0_2.length c0_2) := (blk_cell BK127.out 2).trans rfl; have hfz15_0 := blk_frozen BK127.out 0; have hfz15_1 := blk_frozen BK127.out 1; have hfz15_2 := blk_frozen BK127.out 2; have hcz16_0 : w13.cell? ⟨gb128, 0, none⟩ = some (.int .u64 0) := (blk_cell BK128.out 0).trans rfl; have hcz16_1 : w13.cell? ⟨gb128, 1, none⟩ = some (.int .u32 0) := (blk_cell BK128.out 1).trans rfl; have hcz16_2 : w13.cell? ⟨gb128, 2, none⟩ = some (.slice none 0 0) := (blk_cell BK128.out 2).trans rfl; have hfz16_0 := blk_frozen BK128.out 0; have hfz16_1 := blk_frozen BK128.out 1; have hfz16_2 := blk_frozen BK128.out 2))
   refine bodyPost_ret (results_cell_row rfl _ _ gb128 52 #[.int .u64 a0_0, .int .u32 a0_1, .slice Ao14 y133.length co14] (0, 0) _ rfl (by (with_reducible repeat (first | refine blk_drewN ?_ _ | refine blk_drew ?_ | refine blk_alloc ?_ _)); refine blk_put (cs := #[.int .u64 a0_0, .int .u32 a0_1, .slice none 0 0]) ?_ 2 _ rfl; (with_reducible repeat (first | refine blk_drewN ?_ _ | refine blk_drew ?_ | refine blk_alloc ?_ _)); refine blk_put (cs := #[.int .u64 a0_0, .int .u32 0, .slice none 0 0]) ?_ 1 _ rfl; (with_reducible repeat (first | refine blk_drewN ?_ _ | refine blk_drew ?_ | refine blk_alloc ?_ _)); refine blk_put (cs := #[.int .u64 0, .int .u32 0, .slice none 0 0]) ?_ 0 _ rfl; (with_reducible repeat (first | refine blk_drewN ?_ _ | refine blk_drew ?_ | refine blk_alloc ?_ _)); refine blk_far ?_ NB128_127.out _; (with_reducible repeat (first | refine blk_drewN ?_ _ | refine blk_drew ?_ | refine blk_alloc ?_ _)); exact BK128.out) Try.underlying52 rfl (by kernel_rfl)) rfl ?_
   exact ⟨_, by first | rfl | (simp [errW_none, errW_some] <;> rfl) | (simp [*, errW_none, errW_some] <;> rfl), by (with_reducible repeat (first | apply Kd.R_alloc | apply Kd.R_drewN | apply Kd.R_drew)); exact Kd.R_mono (Kd.R_far (p := ⟨gb128, 2, none⟩) (Kd.R_far (p := ⟨gb128, 1, none⟩) (Kd.R_far (p := ⟨gb128, 0, none⟩) (Kd.R_far (p := ⟨gb127, 2, none⟩) (Kd.R_types (Kd.R_types HO135.out BK127.out (by decide)) BK128.out (by decide)) (fun _ hk => hk.1.2) (.slice Ao14 y133.length co14)) (fun _ hk => hk.2) (.int .u64 a0_0)) (fun _ hk => hk.2) (.int .u32 a0_1)) (fun _ hk => hk.2) (.slice Ao14 y133.length co14)) (fun _ hk => trivial), bB HB.out⟩
  ·rw [if_neg c4] at H
   exact absurd H (by simp)
 ·replace c3 := Bool.eq_false_iff.mpr c3
  subst c3
  have H1 : ((coder_New.f).bind fun bt136 => (some (bt136.1, bt136.2.1, bt136.2.2))) = some (r1, r2, r3) := by rw [if_neg (show ¬ (false = true) by decide)] at H; exact H
  clear H
  have H := H1
  clear H1
  replace H := Option.bind_eq_some_iff.mp H
  obtain ⟨⟨t136, t137, t138⟩, A170, H⟩ := H
  replace H : (some (t136, t137, t138)) = some (r1, r2, r3) := H
  have A17 := Am A170
  clear A170
  simp only [Option.some.injEq, Prod.mk.injEq] at H
  obtain ⟨rfl, rfl, rfl⟩ := H
  go_enter Try.func88, Try.ntmps88
  go_wp2_with (first | ((with_reducible refine gate_dst (N := 1) rfl ?_); refine box_event ?hg (N := 1) ?hd (cs := #[.int .u64 a0_0, .int .u32 a0_1, .slice A0_2 l0_2.length c0_2]) (t := 52) ?hr ?_; (case hd => rfl); (case hg => rfl); (case hr => first | (go_simp; done) | (go_simp; rfl)); intro gb127 hg w18 hbox hb; have n0_ := Am (below_step (bB HB.out) hb); have n1_ := Am (hbox); have n2_ := Am ((by rw [hg]; exact (below_size (bB HB.out)) : w.heap.size ≤ gb127)); have n3_ := Am ((by rw [hg]; exact (below_size (bB HB.out)) : w.heap.size ≤ gb127)); clear HB; have HB := n0_; have BK127 := n1_; have GW127 := n2_; have GE127 := n3_; clear n0_ n1_ n2_ n3_; clear hb hbox hg) | ((with_reducible refine gate_dst (N := 2) rfl ?_); refine box_event ?hg (N := 2) ?hd (cs := #[.int .u64 0, .int .u32 0, .slice none 0 0]) (t := 52) ?hr ?_; (case hd => rfl); (case hg => rfl); (case hr => first | (go_simp; done) | (go_simp; rfl)); intro gb128 hg w19 hbox hb; have n0_ := Am (blk_below (g := gb127) (o := .cells #[.int .u64 a0_0, .int .u32 a0_1, .slice A0_2 l0_2.length c0_2] 52 (0, 0)) (bK BK127.out) hb); have n1_ := Am (below_step (bB HB.out) hb); have n2_ := Am (hbox); have n3_ := Am ((by rw [hg]; exact (below_size (bB HB.out)) : w.heap.size ≤ gb128)); have n4_ := Am ((by rw [hg]; exact (below_size (bB HB.out)) : w.heap.size ≤ gb128)); have n5_ := Am ((by rw [hg]; exact Nat.ne_of_lt (blk_lt (g := gb127) (o := .cells #[.int .u64 a0_0, .int .u32 a0_1, .slice A0_2 l0_2.length c0_2] 52 (0, 0)) (bK BK127.out)) : gb127 ≠ gb128)); have n6_ := Am ((by rw [hg]; exact Nat.ne_of_gt (blk_lt (g := gb127) (o := .cells #[.int .u64 a0_0, .int .u32 a0_1, .slice A0_2 l0_2.length c0_2] 52 (0, 0)) (bK BK127.out)) : gb128 ≠ gb127)); clear BK127; clear HB; have BK127 := n0_; have HB := n1_; have BK128 := n2_; have GW128 := n3_; have GE128 := n4_; have NB127_128 := n5_; have NB128_127 := n6_; clear n0_ n1_ n2_ n3_ n4_ n5_ n6_; clear hb hbox hg; have hnb20 := NB127_128.out; have hnc20 := NB128_127.out; have hcz21_0 : w19.cell? ⟨gb127, 0, none⟩ = some (.int .u64 a0_0) := (blk_cell BK127.out 0).trans rfl; have hcz21_1 : w19.cell? ⟨gb127, 1, none⟩ = some (.int .u32 a0_1) := (blk_cell BK127.out 1).trans rfl; have hcz21_2 : w19.cell? ⟨gb127, 2, none⟩ = some (.slice A0_2 l0_2.length c0_2) := (blk_cell BK127.out 2).trans rfl; have hfz21_0 := blk_frozen BK127.out 0; have hfz21_1 := blk_frozen BK127.out 1; have hfz21_2 := blk_frozen BK127.out 2) | ((with_reducible refine gate_callee (f := 133) rfl ?_); refine goesL_ (some 4) rfl rfl Try.func133 (by kernel_rfl) rfl #[.agg #[.int .u64 a0_0, .int .u32 a0_1, .slice A0_2 l0_2.length c0_2]] rfl ls_ ?_; (with_reducible refine (coder_RightEnc.calls a0_0 a0_1 _ _ l0_2 false _ ?side1 ?side2 A2.out).mono ?_); (case side1 => repeat (first | exact (Kd.C_below HR0_2.out HB.out) | (with_reducible refine Kd.C_alloc ?_ _) | (with_reducible refine Kd.C_drewN ?_ _) | (with_reducible refine Kd.C_drew ?_))); (case side2 => exact HC0_2.out); rintro e w22 ⟨rfl, hb⟩; refine ⟨_, rfl, ?_⟩; have n0_ := Am (blk_below (g := gb127) (o := .cells #[.int .u64 a0_0, .int .u32 a0_1, .slice A0_2 l0_2.length c0_2] 52 (0, 0)) (bK BK127.out) hb); have n1_ := Am (blk_below (g := gb128) (o := .cells #[.int .u64 0, .int .u32 0, .slice none 0 0] 52 (0, 0)) (bK BK128.out) hb); have n2_ := Am (below_step (bB HB.out) hb); clear BK127; clear BK128; clear HB; have BK127 := n0_; have BK128 := n1_; have HB := n2_; clear n0_ n1_ n2_; (try clear hb); (try clear hb2); (try clear hk); (try clear hi)) | ((with_reducible refine gate_callee (f := 32) rfl ?_); refine goesL_ (some 6) rfl rfl Try.func32 (by kernel_rfl) rfl #[] rfl ls_ ?_; (with_reducible refine (coder_New.calls  t136 t137 t138 _ A17.out).mono ?_); rintro e w23 ⟨v139, rfl, ho0, hb⟩; refine ⟨_, rfl, ?_⟩; have n0_ := Am (Kd.R_lower ho0 (below_size (bB HB.out))); have n1_ := Am (blk_below (g := gb127) (o := .cells #[.int .u64 a0_0, .int .u32 a0_1, .slice A0_2 l0_2.length c0_2] 52 (0, 0)) (bK BK127.out) hb); have n2_ := Am (blk_below (g := gb128) (o := .cells #[.int .u64 0, .int .u32 0, .slice none 0 0] 52 (0, 0)) (bK BK128.out) hb); have n3_ := Am (below_step (bB HB.out) hb); clear BK127; clear BK128; clear HB; have HO140 := n0_; have BK127 := n1_; have BK128 := n2_; have HB := n3_; clear n0_ n1_ n2_ n3_; (try clear hb); (try clear hb2); (try clear hk); (try clear hi); (try clear ho0); have hcz24_0 : w23.cell? ⟨gb128, 0, none⟩ = some (.int .u64 0) := (blk_cell BK128.out 0).trans rfl; have hcz24_1 : w23.cell? ⟨gb128, 1, none⟩ = some (.int .u32 0) := (blk_cell BK128.out 1).trans rfl; have hcz24_2 : w23.cell? ⟨gb128, 2, none⟩ = some (.slice none 0 0) := (blk_cell BK128.out 2).trans rfl; have hfz24_0 := blk_frozen BK128.out 0; have hfz24_1 := blk_frozen BK128.out 1; have hfz24_2 := blk_frozen BK128.out 2; obtain ⟨Ao25, co25, eo25⟩ := Kd.R_slice HO140.out; subst eo25))
  refine bodyPost_ret (results_cell_row rfl _ _ gb128 52 #[.int .u64 t136, .int .u32 t137, .slice Ao25 t138.length co25] (0, 0) _ rfl (by (with_reducible repeat (first | refine blk_drewN ?_ _ | refine blk_drew ?_ | refine blk_alloc ?_ _)); refine blk_put (cs := #[.int .u64 t136, .int .u32 t137, .slice none 0 0]) ?_ 2 _ rfl; (with_reducible repeat (first | refine blk_drewN ?_ _ | refine blk_drew ?_ | refine blk_alloc ?_ _)); refine blk_put (cs := #[.int .u64 t136, .int .u32 0, .slice none 0 0]) ?_ 1 _ rfl; (with_reducible repeat (first | refine blk_drewN ?_ _ | refine blk_drew ?_ | refine blk_alloc ?_ _)); refine blk_put (cs := #[.int .u64 0, .int .u32 0, .slice none 0 0]) ?_ 0 _ rfl; (with_reducible repeat (first | refine blk_drewN ?_ _ | refine blk_drew ?_ | refine blk_alloc ?_ _)); exact BK128.out) Try.underlying52 rfl (by kernel_rfl)) rfl ?_
  exact ⟨_, by first | rfl | (simp [errW_none, errW_some] <;> rfl) | (simp [*, errW_none, errW_some] <;> rfl), by (with_reducible repeat (first | apply Kd.R_alloc | apply Kd.R_drewN | apply Kd.R_drew)); exact Kd.R_mono (Kd.R_far (p := ⟨gb128, 2, none⟩) (Kd.R_far (p := ⟨gb128, 1, none⟩) (Kd.R_far (p := ⟨gb128, 0, none⟩) (Kd.R_types HO140.out BK128.out (by decide)) (fun _ hk => hk.2) (.int .u64 t136)) (fun _ hk => hk.2) (.int .u32 t137)) (fun _ hk => hk.2) (.slice Ao25 t138.length co25)) (fun _ hk => trivial), bB HB.out⟩

/-! ### coder_fair: function 107 -/
set_option maxHeartbeats 8000000 in
set_option maxRecDepth 100000 in
theorem coder_fair.calls (a0 : Int) (a1 : Int) (a2 : Int) (r : Bool) (w : World) (h : coder_fair.f a0 a1 a2 = some r) :
  Calls Try.prog 107 #[.int .i64 a0, .int .i64 a1, .int .i64 a2] w fun e w' => e = .returned (.bool r) ∧ Below w.heap.size w w' := by
 have HB := Am (Below.refl w.heap.size w)
 have H : (if a0 ≥ 0 then (if a0 < a1 then (if a1 ≤ a2 then (some (decide (a2 ≤ 65536))) else (some false)) else (some false)) else (some false)) = some r := h
 clear h
 by_cases c4 : a0 ≥ 0
 ·rw [if_pos c4] at H
  have c4b0 : decide (0 ≤ a0) = true := decide_eq_true c4
  clear c4
  by_cases c5 : a0 < a1
  ·rw [if_pos c5] at H
   have c5b0 : decide (a0 < a1) = true := decide_eq_true c5
   clear c5
   by_cases c6 : a1 ≤ a2
   ·rw [if_pos c6] at H
    have c6b0 : decide (a1 ≤ a2) = true := decide_eq_true c6
    clear c6
    obtain rfl := Option.some.inj H
    go_enter Try.func107, Try.ntmps107
    go_wp2
    go_ret
    exact ⟨by first | rfl | (simp [errW_none, errW_some] <;> rfl) | (simp [*, errW_none, errW_some] <;> rfl), bB HB.out⟩
   ·rw [if_neg c6] at H
    have c6b0 : decide (a1 ≤ a2) = false := decide_eq_false c6
    clear c6
    obtain rfl := Option.some.inj H
    go_enter Try.func107, Try.ntmps107
    go_wp2
    go_ret
    exact ⟨by first | rfl | (simp [errW_none, errW_some] <;> rfl) | (simp [*, errW_none, errW_some] <;> rfl), bB HB.out⟩
  ·rw [if_neg c5] at H
   have c5b0 : decide (a0 < a1) = false := decide_eq_false c5
   clear c5
   obtain rfl := Option.some.inj H
   go_enter Try.func107, Try.ntmps107
   go_wp2
   go_ret
   exact ⟨by first | rfl | (simp [errW_none, errW_some] <;> rfl) | (simp [*, errW_none, errW_some] <;> rfl), bB HB.out⟩
 ·rw [if_neg c4] at H
  have c4b0 : decide (0 ≤ a0) = false := decide_eq_false c4
  clear c4
  obtain rfl := Option.some.inj H
  go_enter Try.func107, Try.ntmps107
  go_wp2
  go_ret
  exact ⟨by first | rfl | (simp [errW_none, errW_some] <;> rfl) | (simp [*, errW_none, errW_some] <;> rfl), bB HB.out⟩

/-! ### coder_part: function 108 -/
set_option maxHeartbeats 8000000 in
set_option maxRecDepth 100000 in
theorem coder_part.calls (a0 : Int) (a1 : Int) (a2 : Int) (a3 : Int) (r1 : Int) (r2 : Int) (w : World) (h : coder_part.f a0 a1 a2 a3 = some (r1, r2)) :
  Calls Try.prog 108 #[.int .u32 a0, .int .i64 a1, .int .i64 a2, .int .i64 a3] w fun e w' => e = .returned (.tuple #[.int .u32 r1, .int .u64 r2]) ∧ Below w.heap.size w w' := by
 have HB := Am (Below.refl w.heap.size w)
 have H : (if ((a3) % 4294967296) = 0 then (none) else (if a2 = a3 then (some ((a0 - ((IntKind.u64.wrap (((Int.tdiv a0 ((a3) % 4294967296)) % 4294967296) * (IntKind.u64.wrap (a1)))) % 4294967296)) % 4294967296, IntKind.u64.wrap (((Int.tdiv a0 ((a3) % 4294967296)) % 4294967296) * (IntKind.u64.wrap (a1))))) else (some ((((Int.tdiv a0 ((a3) % 4294967296)) % 4294967296) * ((wrap64 (a2 - a1)) % 4294967296)) % 4294967296, IntKind.u64.wrap (((Int.tdiv a0 ((a3) % 4294967296)) % 4294967296) * (IntKind.u64.wrap (a1))))))) = some (r1, r2) := h
 clear h
 by_cases c5 : ((a3) % 4294967296) = 0
 ·rw [if_pos c5] at H
  exact absurd H (by simp)
 ·rw [if_neg c5] at H
  have c5b0 : (((a3) % 4294967296) == 0) = false := beq_eq_false_iff_ne.mpr c5
  have c5b1 : (((a3) % 4294967296) != 0) = true := bne_iff_ne.mpr c5
  by_cases c6 : a2 = a3
  ·rw [if_pos c6] at H
   have c6b0 : (a2 == a3) = true := beq_iff_eq.mpr c6
   have c6b1 : (a2 != a3) = false := bne_eq_false_iff_eq.mpr c6
   clear c6
   simp only [Option.some.injEq, Prod.mk.injEq] at H
   obtain ⟨rfl, rfl⟩ := H
   go_enter Try.func108, Try.ntmps108
   go_wp2
   go_ret2
   exact ⟨by first | rfl | (simp [errW_none, errW_some] <;> rfl) | (simp [*, errW_none, errW_some] <;> rfl), bB HB.out⟩
  ·rw [if_neg c6] at H
   have c6b0 : (a2 == a3) = false := beq_eq_false_iff_ne.mpr c6
   have c6b1 : (a2 != a3) = true := bne_iff_ne.mpr c6
   simp only [Option.some.injEq, Prod.mk.injEq] at H
   obtain ⟨rfl, rfl⟩ := H
   go_enter Try.func108, Try.ntmps108
   go_wp2
   go_ret2
   exact ⟨by first | rfl | (simp [errW_none, errW_some] <;> rfl) | (simp [*, errW_none, errW_some] <;> rfl), bB HB.out⟩

/-! ### coder_carry: function 109 -/
set_option maxHeartbeats 8000000 in
set_option maxRecDepth 100000 in
theorem coder_carry.calls (k : Nat) (P0_ : Nat → Prop) (u9000_ : Value) (l0 : List Int) (r : List Int) (w0 w : World) (hB : Below w0.heap.size w0 w) (ho0 : Kd.R (Kd.int .u8) 5 w w0.heap.size P0_ u9000_ l0) (h : coder_carry.f k l0 = some r) :
  Calls Try.prog 109 #[u9000_] w fun e w' => e = .returned (.tuple #[]) ∧ Kd.R (Kd.int .u8) 5 w' w0.heap.size (fun k_ => (P0_ k_ ∨ w.heap.size ≤ k_)) u9000_ r ∧ Below w0.heap.size w0 w' ∧ Kept w w' (fun k_ => P0_ k_) := by
 have HO0 := Am (show Kd.R (Kd.int .u8) 5 w w0.heap.size (fun k_ => (P0_ k_ ∨ w.heap.size ≤ k_)) u9000_ l0 from Kd.R_mono ho0 (fun k_ hk => (.inl hk)))
 have HK := Am (Kept.refl w (fun k_ => P0_ k_))
 have HW0 := Am hB.size
 have HB := Am hB
 clear hB
 have H : (coder_carry.l0 k l0 (wrap64 ((l0.length : Int) - 1))) = some r := h
 clear h
 have H' := Am H
 clear H
 obtain ⟨Ao2, co2, eo2⟩ := Kd.R_slice HO0.out
 subst eo2
 go_enter Try.func109, Try.ntmps109
 go_step3
 go_wp2
 go_step3
 go_wp2
 go_loopg [2] k (fun kq v2 w' => ∃ (x0_1 : List Int) (x2_1 : Int), v2 = .int .i64 x2_1 ∧ Aside0 (coder_carry.l0 kq x0_1 x2_1 = some r) ∧ Aside0 (kq ≤ k) ∧ Aside0 (Kd.R (Kd.int .u8) 5 w' w0.heap.size (fun k_ => (P0_ k_ ∨ w.heap.size ≤ k_)) (.slice Ao2 l0.length co2) x0_1) ∧ Aside0 (Kept w w' (fun k_ => P0_ k_)) ∧ Aside0 (Below w0.heap.size w0 w'))
 case atStart => exact ⟨(l0), (wrap64 ((l0.length : Int) - 1)), rs_, H', ⟨Nat.le_refl _⟩, ⟨by (with_reducible repeat (first | apply Kd.R_alloc | apply Kd.R_drewN | apply Kd.R_drew)); exact HO0.out⟩, ⟨by repeat (first | (with_reducible first | exact HK.out | apply Kept.alloc | apply Kept.drewN | apply Kept.drew) | exact HK.out)⟩, ⟨bB HB.out⟩⟩
 case round =>
  clear H'
  try clear c1
  try clear p2
  obtain ⟨x0_1, x2_1, rfl, HA, HK1, HO_0, HK, HB⟩ := hrel
  have hl0_1 := (Kd.R_reads' HO_0.out).1
  rw [hl0_1] at HO_0
  (try simp only [hl0_1])
  cases gk with
  | zero => exact absurd HA.out (by simp [coder_carry.l0])
  | succ k1 =>
   have H := HA.out
   clear HA
   simp only [coder_carry.l0] at H
   by_cases c3 : x2_1 ≥ 0
   ·rw [if_pos c3] at H
    have c3b0 : decide (0 ≤ x2_1) = true := decide_eq_true c3
    clear c3
    by_cases c4 : 0 ≤ x2_1
    ·rw [if_pos c4] at H
     have c4b0 : decide (0 ≤ x2_1) = true := decide_eq_true c4
     clear c4
     by_cases c5 : x2_1 < (x0_1.length : Int)
     ·rw [if_pos c5] at H
      have c5b0 : decide (x2_1 < (x0_1.length : Int)) = true := decide_eq_true c5
      clear c5
      obtain ⟨y142, hy142⟩ : ∃ y_ : List Int, y_ = (x0_1.set (x2_1 : Int).toNat (((rd x0_1 x2_1) + 1) % 256)) := ⟨_, rfl⟩
      replace H : (if (rd y142 x2_1) = 0 then (coder_carry.l0 k1 y142 (wrap64 (x2_1 - 1))) else (some y142)) = some r := by first | (rw [hy142]; with_reducible exact H) | (have H2_ := (Option.bind_some _ _).symm.trans H; rw [hy142]; with_reducible exact H2_) | (have H2_ := (Option.bind_some _ _).symm.trans H; with_reducible exact H2_) | with_reducible exact H | (rw [hy142]; exact H) | exact H
      have Ny142 := Am hy142
      clear hy142
      by_cases c7 : (rd y142 x2_1) = 0
      ·rw [if_pos c7] at H
       have c7b0 : ((rd y142 x2_1) == 0) = true := beq_iff_eq.mpr c7
       have c7b1 : ((rd y142 x2_1) != 0) = false := bne_eq_false_iff_eq.mpr c7
       clear c7
       have H' := Am H
       clear H
       have p141 : 0 ≤ (x2_1 : Int) := of_decide_eq_true as_
       have q141 : x2_1 < (x0_1.length : Int) := of_decide_eq_true as_
       obtain ⟨ad141, e141, hx141_0⟩ := Kd.at_int (Kd.R_reads' HO_0.out).2.2 x2_1 p141 q141
       cases e141
       replace p141 := eq_true p141
       replace q141 := eq_true q141
       have p6 : 0 ≤ (x2_1 : Int) := of_decide_eq_true as_
       have q6 : (x2_1 : Int) < ((x0_1.length : Int) : Int) := of_decide_eq_true as_
       obtain ⟨go6, co6, eo6, gb6, gl6, cl6, HG6⟩ := Kd.R_form HO_0.out (by omega)
       (first | cases eo6 | (injection eo6 with ea_ en_ ec_; (first | subst ea_ | (injection ea_ with ea_; subst ea_)); subst ec_; clear en_))
       have GB6 := Am gb6
       have GG6 := Am HG6
       clear gb6 gl6 HG6
       have HMgo6 := Am (show (P0_ go6 ∨ w.heap.size ≤ go6) from (HO_0.out.1 _ rfl))
       (first | simp only [add_plain] at hx141_0 | skip)
       obtain ⟨hx6_0, hf6_0⟩ := Kd.R_celln 0 HO_0.out (x2_1 : Int) p6 q6
       replace p6 := eq_true p6
       replace q6 := eq_true q6
       have HP8 := Kd.R_putg HO_0.out (x2_1 : Int) (((rd x0_1 x2_1) + 1) % 256)
       go_wp2_with (first | ((with_reducible refine gate_store (t := 5) (p := 15) rfl ?_); refine store_event (t := 5) (p := 15) (v := ?vo_w9) (w1 := (wr.setCell ⟨go6, (x2_1 : Int).toNat, none⟩ (.int .u8 (((rd x0_1 x2_1) + 1) % 256)))) ?hg ?ho ?hn ?hr ?_; (case ho => rfl); (case hg => rfl); (case hn => rfl); (case hr => first | (go_simp; done) | (go_simp; rfl)); intro w9 hw; have hg : wr.grownBy w9 (some go6) := (by rw [hw]; exact HP8.2); have hp_ : Kd.R (Kd.int .u8) 5 w9 w0.heap.size (fun k_ => (P0_ k_ ∨ w.heap.size ≤ k_)) (.slice (some ⟨go6, 0, none⟩) x0_1.length co2) y142 := (by rw [hw, Ny142.out]; exact HP8.1); clear HP8; have n0_ := Am (hp_); have n1_ := Am ((by rw [hw]; exact below_set (HB.out) GB6.out : Below w0.heap.size w0 w9)); have n2_ := Am (Kept.of_grown (S := (fun k_ => P0_ k_)) hg (by repeat (first | (with_reducible first | exact HK.out | apply Kept.alloc | apply Kept.drewN | apply Kept.drew) | exact HK.out)) (fun k_ e_ => (HO_0.out.1 k_ e_))); clear HO_0; clear HB; clear HK; have HO_0 := n0_; have HB := n1_; have HK := n2_; clear n0_ n1_ n2_; clear hg hw hp_; have p143 : 0 ≤ (x2_1 : Int) := of_decide_eq_true as_; have q143 : x2_1 < (y142.length : Int) := (by have h_ : (x2_1 : Int) < ((x0_1.length : Int) : Int) := of_decide_eq_true as_; first | (have e_ := (Kd.R_reads' HO_0.out).1; omega) | simpa only [Ny142.out, List.length_set] using h_); have ql143 : ((x2_1 : Int) < ((x0_1.length : Int) : Int)) = True := eq_true (of_decide_eq_true as_); obtain ⟨ad143, e143, hx143_0⟩ := Kd.at_int (Kd.R_reads' HO_0.out).2.2 x2_1 p143 q143; obtain rfl : (⟨go6, 0, none⟩ : Addr) = ad143 := (by injection e143); (first | simp only [add_plain] at hx143_0 | simp only [add_at] at hx143_0 | simp only [Addr.add, Nat.zero_add] at hx143_0 | skip); replace p143 := eq_true p143; replace q143 := eq_true q143))
       (try simp only [← hl0_1])
       go_roundg k1
       case measure => have := HK1.out; omega
       case rel => exact ⟨(y142), (wrap64 (x2_1 - 1)), rs_, H', ⟨by have := HK1.out; omega⟩, ⟨by (try simp only [hl0_1]); (with_reducible repeat (first | apply Kd.R_alloc | apply Kd.R_drewN | apply Kd.R_drew)); exact HO_0.out⟩, ⟨by repeat (first | (with_reducible first | exact HK.out | apply Kept.alloc | apply Kept.drewN | apply Kept.drew) | exact HK.out)⟩, ⟨bB HB.out⟩⟩
      ·rw [if_neg c7] at H
       have c7b0 : ((rd y142 x2_1) == 0) = false := beq_eq_false_iff_ne.mpr c7
       have c7b1 : ((rd y142 x2_1) != 0) = true := bne_iff_ne.mpr c7
       obtain rfl := Option.some.inj H
       have p141 : 0 ≤ (x2_1 : Int) := of_decide_eq_true as_
       have q141 : x2_1 < (x0_1.length : Int) := of_decide_eq_true as_
       obtain ⟨ad141, e141, hx141_0⟩ := Kd.at_int (Kd.R_reads' HO_0.out).2.2 x2_1 p141 q141
       cases e141
       replace p141 := eq_true p141
       replace q141 := eq_true q141
       have p6 : 0 ≤ (x2_1 : Int) := of_decide_eq_true as_
       have q6 : (x2_1 : Int) < ((x0_1.length : Int) : Int) := of_decide_eq_true as_
       obtain ⟨go6, co6, eo6, gb6, gl6, cl6, HG6⟩ := Kd.R_form HO_0.out (by omega)
       (first | cases eo6 | (injection eo6 with ea_ en_ ec_; (first | subst ea_ | (injection ea_ with ea_; subst ea_)); subst ec_; clear en_))
       have GB6 := Am gb6
       have GG6 := Am HG6
       clear gb6 gl6 HG6
       have HMgo6 := Am (show (P0_ go6 ∨ w.heap.size ≤ go6) from (HO_0.out.1 _ rfl))
       (first | simp only [add_plain] at hx141_0 | skip)
       obtain ⟨hx6_0, hf6_0⟩ := Kd.R_celln 0 HO_0.out (x2_1 : Int) p6 q6
       replace p6 := eq_true p6
       replace q6 := eq_true q6
       have HP10 := Kd.R_putg HO_0.out (x2_1 : Int) (((rd x0_1 x2_1) + 1) % 256)
       go_wp2_with (first | ((with_reducible refine gate_store (t := 5) (p := 15) rfl ?_); refine store_event (t := 5) (p := 15) (v := ?vo_w11) (w1 := (wr.setCell ⟨go6, (x2_1 : Int).toNat, none⟩ (.int .u8 (((rd x0_1 x2_1) + 1) % 256)))) ?hg ?ho ?hn ?hr ?_; (case ho => rfl); (case hg => rfl); (case hn => rfl); (case hr => first | (go_simp; done) | (go_simp; rfl)); intro w11 hw; have hg : wr.grownBy w11 (some go6) := (by rw [hw]; exact HP10.2); have hp_ : Kd.R (Kd.int .u8) 5 w11 w0.heap.size (fun k_ => (P0_ k_ ∨ w.heap.size ≤ k_)) (.slice (some ⟨go6, 0, none⟩) x0_1.length co2) y142 := (by rw [hw, Ny142.out]; exact HP10.1); clear HP10; have n0_ := Am (hp_); have n1_ := Am ((by rw [hw]; exact below_set (HB.out) GB6.out : Below w0.heap.size w0 w11)); have n2_ := Am (Kept.of_grown (S := (fun k_ => P0_ k_)) hg (by repeat (first | (with_reducible first | exact HK.out | apply Kept.alloc | apply Kept.drewN | apply Kept.drew) | exact HK.out)) (fun k_ e_ => (HO_0.out.1 k_ e_))); clear HO_0; clear HB; clear HK; have HO_0 := n0_; have HB := n1_; have HK := n2_; clear n0_ n1_ n2_; clear hg hw hp_; have p143 : 0 ≤ (x2_1 : Int) := of_decide_eq_true as_; have q143 : x2_1 < (y142.length : Int) := (by have h_ : (x2_1 : Int) < ((x0_1.length : Int) : Int) := of_decide_eq_true as_; first | (have e_ := (Kd.R_reads' HO_0.out).1; omega) | simpa only [Ny142.out, List.length_set] using h_); have ql143 : ((x2_1 : Int) < ((x0_1.length : Int) : Int)) = True := eq_true (of_decide_eq_true as_); obtain ⟨ad143, e143, hx143_0⟩ := Kd.at_int (Kd.R_reads' HO_0.out).2.2 x2_1 p143 q143; obtain rfl : (⟨go6, 0, none⟩ : Addr) = ad143 := (by injection e143); (first | simp only [add_plain] at hx143_0 | simp only [add_at] at hx143_0 | simp only [Addr.add, Nat.zero_add] at hx143_0 | skip); replace p143 := eq_true p143; replace q143 := eq_true q143))
       (try rw [Exit.noGoto_ret]); first | go_end0 | ((try simp only [Exit.inBlock, Exit.then]); refine bodyPost_ret (results_none rfl _ _ _) rfl ?_)
       exact ⟨by first | rfl | (simp [errW_none, errW_some] <;> rfl) | (simp [*, errW_none, errW_some] <;> rfl), (by first | exact (kR HO_0.out) | (simp only [hl0_1]; exact (kR HO_0.out))), bB HB.out, by repeat (first | (with_reducible first | exact HK.out | apply Kept.alloc | apply Kept.drewN | apply Kept.drew) | exact HK.out)⟩
     ·rw [if_neg c5] at H
      exact absurd H (by simp)
    ·rw [if_neg c4] at H
     exact absurd H (by simp)
   ·rw [if_neg c3] at H
    have c3b0 : decide (0 ≤ x2_1) = false := decide_eq_false c3
    clear c3
    obtain rfl := Option.some.inj H
    go_wp2
    (try rw [Exit.noGoto_ret]); first | go_end0 | ((try simp only [Exit.inBlock, Exit.then]); refine bodyPost_ret (results_none rfl _ _ _) rfl ?_)
    exact ⟨by first | rfl | (simp [errW_none, errW_some] <;> rfl) | (simp [*, errW_none, errW_some] <;> rfl), (by first | exact (kR HO_0.out) | (simp only [hl0_1]; exact (kR HO_0.out))), bB HB.out, by repeat (first | (with_reducible first | exact HK.out | apply Kept.alloc | apply Kept.drewN | apply Kept.drew) | exact HK.out)⟩

/-! ### coder_Put: function 60 -/
set_option maxHeartbeats 8000000 in
set_option maxRecDepth 100000 in
theorem coder_Put.calls (k : Nat) (a0_0 : Int) (a0_1 : Int) (A0_2 : Option Addr) (c0_2 : Nat) (l0_2 : List Int) (a1 : Int) (a2 : Int) (a3 : Int) (r1 : Int) (r2 : Int) (r3 : List Int) (r4 : Int) (w : World) (hr0_2 : Kd.C (Kd.int .u8) w A0_2 l0_2.length l0_2) (hc0_2 : l0_2.length ≤ c0_2) (h : coder_Put.f k a0_0 a0_1 l0_2 a1 a2 a3 = some (r1, r2, r3, r4)) :
  Calls Try.prog 60 #[.agg #[.int .u64 a0_0, .int .u32 a0_1, .slice A0_2 l0_2.length c0_2], .int .i64 a1, .int .i64 a2, .int .i64 a3] w fun e w' => ∃ v2_ : Value, e = .returned (.tuple #[.agg #[.int .u64 r1, .int .u32 r2, v2_], .int .i64 r4]) ∧ Kd.R (Kd.int .u8) 5 w' w.heap.size (fun _ => True) v2_ r3 ∧ Below w.heap.size w w' := by
 have hu52 := Try.underlying52
 have HR0_2 := Am hr0_2
 have HC0_2 := Am hc0_2
 clear hr0_2 hc0_2
 have HB := Am (Below.refl w.heap.size w)
 have H : ((coder_own.f a0_0 a0_1 l0_2).bind fun bt146 => ((coder_fair.f a1 a2 a3).bind fun t151 => (if t151 = true then (if (bt146.2.2.length : Int) ≥ 3996 then (some (bt146.1, bt146.2.1, bt146.2.2, 3)) else ((coder_part.f bt146.2.1 a1 a2 a3).bind fun bt152 => (if (IntKind.u64.wrap (bt146.1 + bt152.2)) > 4294967295 then ((coder_carry.f k bt146.2.2).bind fun t154 => (coder_Put.j0 k bt152.1 (Go.bits .and .u64 (IntKind.u64.wrap (bt146.1 + bt152.2)) 4294967295) bt146.2.1 t154)) else (coder_Put.j0 k bt152.1 (IntKind.u64.wrap (bt146.1 + bt152.2)) bt146.2.1 bt146.2.2)))) else (some (bt146.1, bt146.2.1, bt146.2.2, 1))))) = some (r1, r2, r3, r4) := h
 clear h
 replace H := Option.bind_eq_some_iff.mp H
 obtain ⟨⟨t146, t147, t148⟩, A50, H⟩ := H
 replace H : ((coder_fair.f a1 a2 a3).bind fun t151 => (if t151 = true then (if (t148.length : Int) ≥ 3996 then (some (t146, t147, t148, 3)) else ((coder_part.f t147 a1 a2 a3).bind fun bt152 => (if (IntKind.u64.wrap (t146 + bt152.2)) > 4294967295 then ((coder_carry.f k t148).bind fun t154 => (coder_Put.j0 k bt152.1 (Go.bits .and .u64 (IntKind.u64.wrap (t146 + bt152.2)) 4294967295) t147 t154)) else (coder_Put.j0 k bt152.1 (IntKind.u64.wrap (t146 + bt152.2)) t147 t148)))) else (some (t146, t147, t148, 1)))) = some (r1, r2, r3, r4) := H
 have A5 := Am A50
 clear A50
 replace H := Option.bind_eq_some_iff.mp H
 obtain ⟨t151, A60, H⟩ := H
 replace H : (if t151 = true then (if (t148.length : Int) ≥ 3996 then (some (t146, t147, t148, 3)) else ((coder_part.f t147 a1 a2 a3).bind fun bt152 => (if (IntKind.u64.wrap (t146 + bt152.2)) > 4294967295 then ((coder_carry.f k t148).bind fun t154 => (coder_Put.j0 k bt152.1 (Go.bits .and .u64 (IntKind.u64.wrap (t146 + bt152.2)) 4294967295) t147 t154)) else (coder_Put.j0 k bt152.1 (IntKind.u64.wrap (t146 + bt152.2)) t147 t148)))) else (some (t146, t147, t148, 1))) = some (r1, r2, r3, r4) := H
 have A6 := Am A60
 clear A60
 by_cases c7 : t151 = true
 ·subst c7
  have H1 : (if (t148.length : Int) ≥ 3996 then (some (t146, t147, t148, 3)) else ((coder_part.f t147 a1 a2 a3).bind fun bt152 => (if (IntKind.u64.wrap (t146 + bt152.2)) > 4294967295 then ((coder_carry.f k t148).bind fun t154 => (coder_Put.j0 k bt152.1 (Go.bits .and .u64 (IntKind.u64.wrap (t146 + bt152.2)) 4294967295) t147 t154)) else (coder_Put.j0 k bt152.1 (IntKind.u64.wrap (t146 + bt152.2)) t147 t148)))) = some (r1, r2, r3, r4) := by rw [if_pos rfl] at H; exact H
  clear H
  have H := H1
  clear H1
  by_cases c8 : (t148.length : Int) ≥ 3996
  ·rw [if_pos c8] at H
   have c8b0 : decide (3996 ≤ (t148.length : Int)) = true := decide_eq_true c8
   have c8b1 : decide (3996 ≤ t148.length) = true := decide_eq_true (by omega)
   clear c8
   simp only [Option.some.injEq, Prod.mk.injEq] at H
   obtain ⟨rfl, rfl, rfl, rfl⟩ := H
   go_enter Try.func60, Try.ntmps60
   go_wp2_with (first | ((with_reducible refine gate_dst (N := 4) rfl ?_); refine box_event ?hg (N := 4) ?hd (cs := #[.int .u64 a0_0, .int .u32 a0_1, .slice A0_2 l0_2.length c0_2]) (t := 52) ?hr ?_; (case hd => rfl); (case hg => rfl); (case hr => first | (go_simp; done) | (go_simp; rfl)); intro gb144 hg w9 hbox hb; have n0_ := Am (below_step (bB HB.out) hb); have n1_ := Am (hbox); have n2_ := Am ((by rw [hg]; exact (below_size (bB HB.out)) : w.heap.size ≤ gb144)); have n3_ := Am ((by rw [hg]; exact (below_size (bB HB.out)) : w.heap.size ≤ gb144)); clear HB; have HB := n0_; have BK144 := n1_; have GW144 := n2_; have GE144 := n3_; clear n0_ n1_ n2_ n3_; clear hb hbox hg) | ((with_reducible refine gate_dst (N := 8) rfl ?_); refine box_event ?hg (N := 8) ?hd (cs := #[.int .u64 0, .int .u32 0, .slice none 0 0]) (t := 52) ?hr ?_; (case hd => rfl); (case hg => rfl); (case hr => first | (go_simp; done) | (go_simp; rfl)); intro gb145 hg w10 hbox hb; have n0_ := Am (blk_below (g := gb144) (o := .cells #[.int .u64 a0_0, .int .u32 a0_1, .slice A0_2 l0_2.length c0_2] 52 (0, 0)) (bK BK144.out) hb); have n1_ := Am (below_step (bB HB.out) hb); have n2_ := Am (hbox); have n3_ := Am ((by rw [hg]; exact (below_size (bB HB.out)) : w.heap.size ≤ gb145)); have n4_ := Am ((by rw [hg]; exact (below_size (bB HB.out)) : w.heap.size ≤ gb145)); have n5_ := Am ((by rw [hg]; exact Nat.ne_of_lt (blk_lt (g := gb144) (o := .cells #[.int .u64 a0_0, .int .u32 a0_1, .slice A0_2 l0_2.length c0_2] 52 (0, 0)) (bK BK144.out)) : gb144 ≠ gb145)); have n6_ := Am ((by rw [hg]; exact Nat.ne_of_gt (blk_lt (g := gb144) (o := .cells #[.int .u64 a0_0, .int .u32 a0_1, .slice A0_2 l0_2.length c0_2] 52 (0, 0)) (bK BK144.out)) : gb145 ≠ gb144)); clear BK144; clear HB; have BK144 := n0_; have HB := n1_; have BK145 := n2_; have GW145 := n3_; have GE145 := n4_; have NB144_145 := n5_; have NB145_144 := n6_; clear n0_ n1_ n2_ n3_ n4_ n5_ n6_; clear hb hbox hg; have hnb11 := NB144_145.out; have hnc11 := NB145_144.out; have hcz12_0 : w10.cell? ⟨gb144, 0, none⟩ = some (.int .u64 a0_0) := (blk_cell BK144.out 0).trans rfl; have hcz12_1 : w10.cell? ⟨gb144, 1, none⟩ = some (.int .u32 a0_1) := (blk_cell BK144.out 1).trans rfl; have hcz12_2 : w10.cell? ⟨gb144, 2, none⟩ = some (.slice A0_2 l0_2.length c0_2) := (blk_cell BK144.out 2).trans rfl; have hfz12_0 := blk_frozen BK144.out 0; have hfz12_1 := blk_frozen BK144.out 1; have hfz12_2 := blk_frozen BK144.out 2) | ((with_reducible refine gate_callee (f := 88) rfl ?_); refine goesL_ (some 13) rfl rfl Try.func88 (by kernel_rfl) rfl #[.agg #[.int .u64 a0_0, .int .u32 a0_1, .slice A0_2 l0_2.length c0_2]] rfl ls_ ?_; (with_reducible refine (coder_own.calls a0_0 a0_1 _ _ l0_2 t146 t147 t148 _ ?side1 ?side2 A5.out).mono ?_); (case side1 => repeat (first | exact (Kd.C_below HR0_2.out HB.out) | (with_reducible refine Kd.C_alloc ?_ _) | (with_reducible refine Kd.C_drewN ?_ _) | (with_reducible refine Kd.C_drew ?_))); (case side2 => exact HC0_2.out); rintro e w13 ⟨v149, rfl, ho0, hb⟩; refine ⟨_, rfl, ?_⟩; have n0_ := Am (Kd.R_lower ho0 (below_size (bB HB.out))); have n1_ := Am (blk_below (g := gb144) (o := .cells #[.int .u64 a0_0, .int .u32 a0_1, .slice A0_2 l0_2.length c0_2] 52 (0, 0)) (bK BK144.out) hb); have n2_ := Am (blk_below (g := gb145) (o := .cells #[.int .u64 0, .int .u32 0, .slice none 0 0] 52 (0, 0)) (bK BK145.out) hb); have n3_ := Am (below_step (bB HB.out) hb); clear BK144; clear BK145; clear HB; have HO150 := n0_; have BK144 := n1_; have BK145 := n2_; have HB := n3_; clear n0_ n1_ n2_ n3_; (try clear hb); (try clear hb2); (try clear hk); (try clear hi); (try clear ho0); have hcz14_0 : w13.cell? ⟨gb144, 0, none⟩ = some (.int .u64 a0_0) := (blk_cell BK144.out 0).trans rfl; have hcz14_1 : w13.cell? ⟨gb144, 1, none⟩ = some (.int .u32 a0_1) := (blk_cell BK144.out 1).trans rfl; have hcz14_2 : w13.cell? ⟨gb144, 2, none⟩ = some (.slice A0_2 l0_2.length c0_2) := (blk_cell BK144.out 2).trans rfl; have hfz14_0 := blk_frozen BK144.out 0; have hfz14_1 := blk_frozen BK144.out 1; have hfz14_2 := blk_frozen BK144.out 2; obtain ⟨Ao15, co15, eo15⟩ := Kd.R_slice HO150.out; subst eo15) | ((with_reducible refine gate_callee (f := 107) rfl ?_); refine goesL_ (some 17) rfl rfl Try.func107 (by kernel_rfl) rfl #[.int .i64 a1, .int .i64 a2, .int .i64 a3] rfl ls_ ?_; (with_reducible refine (coder_fair.calls a1 a2 a3 true _ A6.out).mono ?_); rintro e w16 ⟨rfl, hb⟩; refine ⟨_, rfl, ?_⟩; have n0_ := Am (Kd.R_below (by (with_reducible repeat (first | apply Kd.R_alloc | apply Kd.R_drewN | apply Kd.R_drew)); exact (Kd.R_mono (Kd.R_far (p := ⟨gb144, 2, none⟩) (Kd.R_far (p := ⟨gb144, 1, none⟩) (Kd.R_far (p := ⟨gb144, 0, none⟩) (Kd.R_types HO150.out BK144.out (by decide)) (fun _ hk => hk.2) (.int .u64 t146)) (fun _ hk => hk.2) (.int .u32 t147)) (fun _ hk => hk.2) (.slice Ao15 t148.length co15)) (fun _ h_ => h_.1))) hb); have n1_ := Am (blk_below (g := gb144) (o := .cells #[.int .u64 t146, .int .u32 t147, .slice Ao15 t148.length co15] 52 (0, 0)) (by (with_reducible repeat (first | refine blk_drewN ?_ _ | refine blk_drew ?_ | refine blk_alloc ?_ _)); refine blk_put (cs := #[.int .u64 t146, .int .u32 t147, .slice A0_2 l0_2.length c0_2]) ?_ 2 _ rfl; (with_reducible repeat (first | refine blk_drewN ?_ _ | refine blk_drew ?_ | refine blk_alloc ?_ _)); refine blk_put (cs := #[.int .u64 t146, .int .u32 a0_1, .slice A0_2 l0_2.length c0_2]) ?_ 1 _ rfl; (with_reducible repeat (first | refine blk_drewN ?_ _ | refine blk_drew ?_ | refine blk_alloc ?_ _)); refine blk_put (cs := #[.int .u64 a0_0, .int .u32 a0_1, .slice A0_2 l0_2.length c0_2]) ?_ 0 _ rfl; (with_reducible repeat (first | refine blk_drewN ?_ _ | refine blk_drew ?_ | refine blk_alloc ?_ _)); exact BK144.out) hb); have n2_ := Am (blk_below (g := gb145) (o := .cells #[.int .u64 0, .int .u32 0, .slice none 0 0] 52 (0, 0)) (by (with_reducible repeat (first | refine blk_drewN ?_ _ | refine blk_drew ?_ | refine blk_alloc ?_ _)); refine blk_far ?_ NB145_144.out _; (with_reducible repeat (first | refine blk_drewN ?_ _ | refine blk_drew ?_ | refine blk_alloc ?_ _)); refine blk_far ?_ NB145_144.out _; (with_reducible repeat (first | refine blk_drewN ?_ _ | refine blk_drew ?_ | refine blk_alloc ?_ _)); refine blk_far ?_ NB145_144.out _; (with_reducible repeat (first | refine blk_drewN ?_ _ | refine blk_drew ?_ | refine blk_alloc ?_ _)); exact BK145.out) hb); have n3_ := Am (below_step (bB HB.out) hb); clear HO150; clear BK144; clear BK145; clear HB; have HO150 := n0_; have BK144 := n1_; have BK145 := n2_; have HB := n3_; clear n0_ n1_ n2_ n3_; (try clear hb); (try clear hb2); (try clear hk); (try clear hi); have hcz17_0 : w16.cell? ⟨gb144, 0, none⟩ = some (.int .u64 t146) := (blk_cell BK144.out 0).trans rfl; have hcz17_1 : w16.cell? ⟨gb144, 1, none⟩ = some (.int .u32 t147) := (blk_cell BK144.out 1).trans rfl; have hcz17_2 : w16.cell? ⟨gb144, 2, none⟩ = some (.slice Ao15 t148.length co15) := (blk_cell BK144.out 2).trans rfl; have hfz17_0 := blk_frozen BK144.out 0; have hfz17_1 := blk_frozen BK144.out 1; have hfz17_2 := blk_frozen BK144.out 2; have hcz18_0 : w16.cell? ⟨gb145, 0, none⟩ = some (.int .u64 0) := (blk_cell BK145.out 0).trans rfl; have hcz18_1 : w16.cell? ⟨gb145, 1, none⟩ = some (.int .u32 0) := (blk_cell BK145.out 1).trans rfl; have hcz18_2 : w16.cell? ⟨gb145, 2, none⟩ = some (.slice none 0 0) := (blk_cell BK145.out 2).trans rfl; have hfz18_0 := blk_frozen BK145.out 0; have hfz18_1 := blk_frozen BK145.out 1; have hfz18_2 := blk_frozen BK145.out 2))
   refine bodyPost_ret (results_ct rfl _ _ gb145 52 #[.int .u64 t146, .int .u32 t147, .slice Ao15 t148.length co15] (0, 0) _ rfl (by (with_reducible repeat (first | refine blk_drewN ?_ _ | refine blk_drew ?_ | refine blk_alloc ?_ _)); refine blk_put (cs := #[.int .u64 t146, .int .u32 t147, .slice none 0 0]) ?_ 2 _ rfl; (with_reducible repeat (first | refine blk_drewN ?_ _ | refine blk_drew ?_ | refine blk_alloc ?_ _)); refine blk_put (cs := #[.int .u64 t146, .int .u32 0, .slice none 0 0]) ?_ 1 _ rfl; (with_reducible repeat (first | refine blk_drewN ?_ _ | refine blk_drew ?_ | refine blk_alloc ?_ _)); refine blk_put (cs := #[.int .u64 0, .int .u32 0, .slice none 0 0]) ?_ 0 _ rfl; (with_reducible repeat (first | refine blk_drewN ?_ _ | refine blk_drew ?_ | refine blk_alloc ?_ _)); exact BK145.out) Try.underlying52 rfl (by kernel_rfl)) rfl ?_
   exact ⟨_, by first | rfl | (simp [errW_none, errW_some] <;> rfl) | (simp [*, errW_none, errW_some] <;> rfl), by (with_reducible repeat (first | apply Kd.R_alloc | apply Kd.R_drewN | apply Kd.R_drew)); exact Kd.R_mono (Kd.R_far (p := ⟨gb145, 2, none⟩) (Kd.R_far (p := ⟨gb145, 1, none⟩) (Kd.R_far (p := ⟨gb145, 0, none⟩) (Kd.R_types HO150.out BK145.out (by decide)) (fun _ hk => hk.2) (.int .u64 t146)) (fun _ hk => hk.2) (.int .u32 t147)) (fun _ hk => hk.2) (.slice Ao15 t148.length co15)) (fun _ hk => trivial), bB HB.out⟩
  ·rw [if_neg c8] at H
   have c8b0 : decide (3996 ≤ (t148.length : Int)) = false := decide_eq_false c8
   have c8b1 : decide (3996 ≤ t148.length) = false := decide_eq_false (by omega)
   clear c8
   replace H := Option.bind_eq_some_iff.mp H
   obtain ⟨⟨t152, t153⟩, A190, H⟩ := H
   replace H : (if (IntKind.u64.wrap (t146 + t153)) > 4294967295 then ((coder_carry.f k t148).bind fun t154 => (coder_Put.j0 k t152 (Go.bits .and .u64 (IntKind.u64.wrap (t146 + t153)) 4294967295) t147 t154)) else (coder_Put.j0 k t152 (IntKind.u64.wrap (t146 + t153)) t147 t148)) = some (r1, r2, r3, r4) := H
   have A19 := Am A190
   clear A190
   have HC20 := Am H
   clear H
   go_enter Try.func60, Try.ntmps60
   go_upto_if 41 with (first | ((with_reducible refine gate_dst (N := 4) rfl ?_); refine box_event ?hg (N := 4) ?hd (cs := #[.int .u64 a0_0, .int .u32 a0_1, .slice A0_2 l0_2.length c0_2]) (t := 52) ?hr ?_; (case hd => rfl); (case hg => rfl); (case hr => first | (go_simp; done) | (go_simp; rfl)); intro gb144 hg w21 hbox hb; have n0_ := Am (below_step (bB HB.out) hb); have n1_ := Am (hbox); have n2_ := Am ((by rw [hg]; exact (below_size (bB HB.out)) : w.heap.size ≤ gb144)); have n3_ := Am ((by rw [hg]; exact (below_size (bB HB.out)) : w.heap.size ≤ gb144)); clear HB; have HB := n0_; have BK144 := n1_; have GW144 := n2_; have GE144 := n3_; clear n0_ n1_ n2_ n3_; clear hb hbox hg) | ((with_reducible refine gate_dst (N := 8) rfl ?_); refine box_event ?hg (N := 8) ?hd (cs := #[.int .u64 0, .int .u32 0, .slice none 0 0]) (t := 52) ?hr ?_; (case hd => rfl); (case hg => rfl); (case hr => first | (go_simp; done) | (go_simp; rfl)); intro gb145 hg w22 hbox hb; have n0_ := Am (blk_below (g := gb144) (o := .cells #[.int .u64 a0_0, .int .u32 a0_1, .slice A0_2 l0_2.length c0_2] 52 (0, 0)) (bK BK144.out) hb); have n1_ := Am (below_step (bB HB.out) hb); have n2_ := Am (hbox); have n3_ := Am ((by rw [hg]; exact (below_size (bB HB.out)) : w.heap.size ≤ gb145)); have n4_ := Am ((by rw [hg]; exact (below_size (bB HB.out)) : w.heap.size ≤ gb145)); have n5_ := Am ((by rw [hg]; exact Nat.ne_of_lt (blk_lt (g := gb144) (o := .cells #[.int .u64 a0_0, .int .u32 a0_1, .slice A0_2 l0_2.length c0_2] 52 (0, 0)) (bK BK144.out)) : gb144 ≠ gb145)); have n6_ := Am ((by rw [hg]; exact Nat.ne_of_gt (blk_lt (g := gb144) (o := .cells #[.int .u64 a0_0, .int .u32 a0_1, .slice A0_2 l0_2.length c0_2] 52 (0, 0)) (bK BK144.out)) : gb145 ≠ gb144)); clear BK144; clear HB; have BK144 := n0_; have HB := n1_; have BK145 := n2_; have GW145 := n3_; have GE145 := n4_; have NB144_145 := n5_; have NB145_144 := n6_; clear n0_ n1_ n2_ n3_ n4_ n5_ n6_; clear hb hbox hg; have hnb23 := NB144_145.out; have hnc23 := NB145_144.out; have hcz24_0 : w22.cell? ⟨gb144, 0, none⟩ = some (.int .u64 a0_0) := (blk_cell BK144.out 0).trans rfl; have hcz24_1 : w22.cell? ⟨gb144, 1, none⟩ = some (.int .u32 a0_1) := (blk_cell BK144.out 1).trans rfl; have hcz24_2 : w22.cell? ⟨gb144, 2, none⟩ = some (.slice A0_2 l0_2.length c0_2) := (blk_cell BK144.out 2).trans rfl; have hfz24_0 := blk_frozen BK144.out 0; have hfz24_1 := blk_frozen BK144.out 1; have hfz24_2 := blk_frozen BK144.out 2) | ((with_reducible refine gate_callee (f := 88) rfl ?_); refine goesL_ (some 13) rfl rfl Try.func88 (by kernel_rfl) rfl #[.agg #[.int .u64 a0_0, .int .u32 a0_1, .slice A0_2 l0_2.length c0_2]] rfl ls_ ?_; (with_reducible refine (coder_own.calls a0_0 a0_1 _ _ l0_2 t146 t147 t148 _ ?side1 ?side2 A5.out).mono ?_); (case side1 => repeat (first | exact (Kd.C_below HR0_2.out HB.out) | (with_reducible refine Kd.C_alloc ?_ _) | (with_reducible refine Kd.C_drewN ?_ _) | (with_reducible refine Kd.C_drew ?_))); (case side2 => exact HC0_2.out); rintro e w25 ⟨v149, rfl, ho0, hb⟩; refine ⟨_, rfl, ?_⟩; have n0_ := Am (Kd.R_lower ho0 (below_size (bB HB.out))); have n1_ := Am (blk_below (g := gb144) (o := .cells #[.int .u64 a0_0, .int .u32 a0_1, .slice A0_2 l0_2.length c0_2] 52 (0, 0)) (bK BK144.out) hb); have n2_ := Am (blk_below (g := gb145) (o := .cells #[.int .u64 0, .int .u32 0, .slice none 0 0] 52 (0, 0)) (bK BK145.out) hb); have n3_ := Am (below_step (bB HB.out) hb); clear BK144; clear BK145; clear HB; have HO150 := n0_; have BK144 := n1_; have BK145 := n2_; have HB := n3_; clear n0_ n1_ n2_ n3_; (try clear hb); (try clear hb2); (try clear hk); (try clear hi); (try clear ho0); have hcz26_0 : w25.cell? ⟨gb144, 0, none⟩ = some (.int .u64 a0_0) := (blk_cell BK144.out 0).trans rfl; have hcz26_1 : w25.cell? ⟨gb144, 1, none⟩ = some (.int .u32 a0_1) := (blk_cell BK144.out 1).trans rfl; have hcz26_2 : w25.cell? ⟨gb144, 2, none⟩ = some (.slice A0_2 l0_2.length c0_2) := (blk_cell BK144.out 2).trans rfl; have hfz26_0 := blk_frozen BK144.out 0; have hfz26_1 := blk_frozen BK144.out 1; have hfz26_2 := blk_frozen BK144.out 2; obtain ⟨Ao27, co27, eo27⟩ := Kd.R_slice HO150.out; subst eo27) | ((with_reducible refine gate_callee (f := 107) rfl ?_); refine goesL_ (some 17) rfl rfl Try.func107 (by kernel_rfl) rfl #[.int .i64 a1, .int .i64 a2, .int .i64 a3] rfl ls_ ?_; (with_reducible refine (coder_fair.calls a1 a2 a3 true _ A6.out).mono ?_); rintro e w28 ⟨rfl, hb⟩; refine ⟨_, rfl, ?_⟩; have n0_ := Am (Kd.R_below (by (with_reducible repeat (first | apply Kd.R_alloc | apply Kd.R_drewN | apply Kd.R_drew)); exact (Kd.R_mono (Kd.R_far (p := ⟨gb144, 2, none⟩) (Kd.R_far (p := ⟨gb144, 1, none⟩) (Kd.R_far (p := ⟨gb144, 0, none⟩) (Kd.R_types HO150.out BK144.out (by decide)) (fun _ hk => hk.2) (.int .u64 t146)) (fun _ hk => hk.2) (.int .u32 t147)) (fun _ hk => hk.2) (.slice Ao27 t148.length co27)) (fun _ h_ => h_.1))) hb); have n1_ := Am (blk_below (g := gb144) (o := .cells #[.int .u64 t146, .int .u32 t147, .slice Ao27 t148.length co27] 52 (0, 0)) (by (with_reducible repeat (first | refine blk_drewN ?_ _ | refine blk_drew ?_ | refine blk_alloc ?_ _)); refine blk_put (cs := #[.int .u64 t146, .int .u32 t147, .slice A0_2 l0_2.length c0_2]) ?_ 2 _ rfl; (with_reducible repeat (first | refine blk_drewN ?_ _ | refine blk_drew ?_ | refine blk_alloc ?_ _)); refine blk_put (cs := #[.int .u64 t146, .int .u32 a0_1, .slice A0_2 l0_2.length c0_2]) ?_ 1 _ rfl; (with_reducible repeat (first | refine blk_drewN ?_ _ | refine blk_drew ?_ | refine blk_alloc ?_ _)); refine blk_put (cs := #[.int .u64 a0_0, .int .u32 a0_1, .slice A0_2 l0_2.length c0_2]) ?_ 0 _ rfl; (with_reducible repeat (first | refine blk_drewN ?_ _ | refine blk_drew ?_ | refine blk_alloc ?_ _)); exact BK144.out) hb); have n2_ := Am (blk_below (g := gb145) (o := .cells #[.int .u64 0, .int .u32 0, .slice none 0 0] 52 (0, 0)) (by (with_reducible repeat (first | refine blk_drewN ?_ _ | refine blk_drew ?_ | refine blk_alloc ?_ _)); refine blk_far ?_ NB145_144.out _; (with_reducible repeat (first | refine blk_drewN ?_ _ | refine blk_drew ?_ | refine blk_alloc ?_ _)); refine blk_far ?_ NB145_144.out _; (with_reducible repeat (first | refine blk_drewN ?_ _ | refine blk_drew ?_ | refine blk_alloc ?_ _)); refine blk_far ?_ NB145_144.out _; (with_reducible repeat (first | refine blk_drewN ?_ _ | refine blk_drew ?_ | refine blk_alloc ?_ _)); exact BK145.out) hb); have n3_ := Am (below_step (bB HB.out) hb); clear HO150; clear BK144; clear BK145; clear HB; have HO150 := n0_; have BK144 := n1_; have BK145 := n2_; have HB := n3_; clear n0_ n1_ n2_ n3_; (try clear hb); (try clear hb2); (try clear hk); (try clear hi); have hcz29_0 : w28.cell? ⟨gb144, 0, none⟩ = some (.int .u64 t146) := (blk_cell BK144.out 0).trans rfl; have hcz29_1 : w28.cell? ⟨gb144, 1, none⟩ = some (.int .u32 t147) := (blk_cell BK144.out 1).trans rfl; have hcz29_2 : w28.cell? ⟨gb144, 2, none⟩ = some (.slice Ao27 t148.length co27) := (blk_cell BK144.out 2).trans rfl; have hfz29_0 := blk_frozen BK144.out 0; have hfz29_1 := blk_frozen BK144.out 1; have hfz29_2 := blk_frozen BK144.out 2) | ((with_reducible refine gate_callee (f := 108) rfl ?_); refine goesL_ (some 31) rfl rfl Try.func108 (by kernel_rfl) rfl #[.int .u32 t147, .int .i64 a1, .int .i64 a2, .int .i64 a3] rfl ls_ ?_; (with_reducible refine (coder_part.calls t147 a1 a2 a3 t152 t153 _ A19.out).mono ?_); rintro e w30 ⟨rfl, hb⟩; refine ⟨_, rfl, ?_⟩; have n0_ := Am (Kd.R_below (kR HO150.out) hb); have n1_ := Am (blk_below (g := gb144) (o := .cells #[.int .u64 t146, .int .u32 t147, .slice Ao27 t148.length co27] 52 (0, 0)) (bK BK144.out) hb); have n2_ := Am (blk_below (g := gb145) (o := .cells #[.int .u64 0, .int .u32 0, .slice none 0 0] 52 (0, 0)) (bK BK145.out) hb); have n3_ := Am (below_step (bB HB.out) hb); clear HO150; clear BK144; clear BK145; clear HB; have HO150 := n0_; have BK144 := n1_; have BK145 := n2_; have HB := n3_; clear n0_ n1_ n2_ n3_; (try clear hb); (try clear hb2); (try clear hk); (try clear hi); have hcz31_0 : w30.cell? ⟨gb144, 0, none⟩ = some (.int .u64 t146) := (blk_cell BK144.out 0).trans rfl; have hcz31_1 : w30.cell? ⟨gb144, 1, none⟩ = some (.int .u32 t147) := (blk_cell BK144.out 1).trans rfl; have hcz31_2 : w30.cell? ⟨gb144, 2, none⟩ = some (.slice Ao27 t148.length co27) := (blk_cell BK144.out 2).trans rfl; have hfz31_0 := blk_frozen BK144.out 0; have hfz31_1 := blk_frozen BK144.out 1; have hfz31_2 := blk_frozen BK144.out 2))
   (try simp only [Act.put, List.setIfInBounds_toArray, List.set_cons_zero, List.set_cons_succ])
   go_cut [] (fun wc => ∃ (kq : Nat) (x145000_19 : Int) (x145002_19 : List Int) (u145002 : Value), Aside0 (coder_Put.j0 kq t152 x145000_19 t147 x145002_19 = some (r1, r2, r3, r4)) ∧ Aside0 (kq ≤ k) ∧ Aside0 (Kd.R (Kd.int .u8) 5 wc w.heap.size (fun _ => True) u145002 x145002_19) ∧ Aside0 (wc.heap[gb144]? = some (.cells #[.int .u64 x145000_19, .int .u32 t147, u145002] 52 (0, 0))) ∧ Aside0 (wc.heap[gb145]? = some (.cells #[.int .u64 0, .int .u32 0, (.slice none 0 0)] 52 (0, 0))) ∧ Aside0 (Below w.heap.size w wc))
   case first =>
    have H := HC20.out
    clear HC20
    by_cases c32 : (IntKind.u64.wrap (t146 + t153)) > 4294967295
    ·rw [if_pos c32] at H
     have c32b0 : decide (4294967295 < (IntKind.u64.wrap (t146 + t153))) = true := decide_eq_true c32
     clear c32
     (first | rw [c32b0] | (simp only [i64_w, i32_w]; rw [c32b0]) | skip)
     replace H := Option.bind_eq_some_iff.mp H
     obtain ⟨t154, A330, H⟩ := H
     replace H : (coder_Put.j0 k t152 (Go.bits .and .u64 (IntKind.u64.wrap (t146 + t153)) 4294967295) t147 t154) = some (r1, r2, r3, r4) := H
     have A33 := Am A330
     clear A330
     have H' := Am H
     clear H
     have hnb34 := NB144_145.out
     have hnc34 := NB145_144.out
     have hcz35_0 : w30.cell? ⟨gb144, 0, none⟩ = some (.int .u64 t146) := (blk_cell BK144.out 0).trans rfl
     have hcz35_1 : w30.cell? ⟨gb144, 1, none⟩ = some (.int .u32 t147) := (blk_cell BK144.out 1).trans rfl
     have hcz35_2 : w30.cell? ⟨gb144, 2, none⟩ = some (.slice Ao27 t148.length co27) := (blk_cell BK144.out 2).trans rfl
     have hfz35_0 := blk_frozen BK144.out 0
     have hfz35_1 := blk_frozen BK144.out 1
     have hfz35_2 := blk_frozen BK144.out 2
     go_wp2_with (first | ((with_reducible refine gate_store (t := 49) (p := 45) rfl ?_); refine store_event (t := 49) (p := 45) (v := ?vo_w36) (w1 := ((w30.setCell ⟨gb144, 0, none⟩ (.int .u64 (IntKind.u64.wrap (t146 + t153)))).setCell ⟨gb144, 0, none⟩ (.int .u64 (Go.bits .and .u64 (IntKind.u64.wrap (t146 + t153)) 4294967295)))) ?hg ?ho ?hn ?hr ?_; (case ho => rfl); (case hg => rfl); (case hn => rfl); (case hr => first | (go_simp; done) | (go_simp; rfl)); intro w36 hw; have n0_ : Aside0 (Kd.R (Kd.int .u8) 5 w36 w.heap.size (fun _ => True) (.slice Ao27 t148.length co27) t148) := ⟨(by rw [hw]; exact (by (with_reducible repeat (first | apply Kd.R_alloc | apply Kd.R_drewN | apply Kd.R_drew)); exact Kd.R_mono (Kd.R_far (p := ⟨gb144, 0, none⟩) (Kd.R_far (p := ⟨gb144, 0, none⟩) (Kd.R_types HO150.out BK144.out (by decide)) (fun _ hk => hk.2) (.int .u64 (IntKind.u64.wrap (t146 + t153)))) (fun _ hk => hk.2) (.int .u64 (Go.bits .and .u64 (IntKind.u64.wrap (t146 + t153)) 4294967295))) (fun _ hk => trivial)))⟩; have n1_ : Aside0 (w36.heap[gb144]? = some (.cells #[.int .u64 (Go.bits .and .u64 (IntKind.u64.wrap (t146 + t153)) 4294967295), .int .u32 t147, .slice Ao27 t148.length co27] 52 (0, 0))) := ⟨(by rw [hw]; exact (by (with_reducible repeat (first | refine blk_drewN ?_ _ | refine blk_drew ?_ | refine blk_alloc ?_ _)); refine blk_put (cs := #[.int .u64 (IntKind.u64.wrap (t146 + t153)), .int .u32 t147, .slice Ao27 t148.length co27]) ?_ 0 _ rfl; (with_reducible repeat (first | refine blk_drewN ?_ _ | refine blk_drew ?_ | refine blk_alloc ?_ _)); refine blk_put (cs := #[.int .u64 t146, .int .u32 t147, .slice Ao27 t148.length co27]) ?_ 0 _ rfl; (with_reducible repeat (first | refine blk_drewN ?_ _ | refine blk_drew ?_ | refine blk_alloc ?_ _)); exact BK144.out))⟩; have n2_ : Aside0 (w36.heap[gb145]? = some (.cells #[.int .u64 0, .int .u32 0, .slice none 0 0] 52 (0, 0))) := ⟨(by rw [hw]; exact (by (with_reducible repeat (first | refine blk_drewN ?_ _ | refine blk_drew ?_ | refine blk_alloc ?_ _)); refine blk_far ?_ NB145_144.out _; (with_reducible repeat (first | refine blk_drewN ?_ _ | refine blk_drew ?_ | refine blk_alloc ?_ _)); refine blk_far ?_ NB145_144.out _; (with_reducible repeat (first | refine blk_drewN ?_ _ | refine blk_drew ?_ | refine blk_alloc ?_ _)); exact BK145.out))⟩; have n3_ : Aside0 (Below w.heap.size w w36) := ⟨(by rw [hw]; exact (bB HB.out))⟩; clear hw; clear HO150; clear BK144; clear BK145; clear HB; have HO150 := n0_; have BK144 := n1_; have BK145 := n2_; have HB := n3_; clear n0_ n1_ n2_ n3_; have hcz37_0 : w36.cell? ⟨gb144, 0, none⟩ = some (.int .u64 (Go.bits .and .u64 (IntKind.u64.wrap (t146 + t153)) 4294967295)) := (blk_cell BK144.out 0).trans rfl; have hcz37_1 : w36.cell? ⟨gb144, 1, none⟩ = some (.int .u32 t147) := (blk_cell BK144.out 1).trans rfl; have hcz37_2 : w36.cell? ⟨gb144, 2, none⟩ = some (.slice Ao27 t148.length co27) := (blk_cell BK144.out 2).trans rfl; have hfz37_0 := blk_frozen BK144.out 0; have hfz37_1 := blk_frozen BK144.out 1; have hfz37_2 := blk_frozen BK144.out 2) | ((with_reducible refine gate_callee (f := 109) rfl ?_); refine goesL_ (some 48) rfl rfl Try.func109 (by kernel_rfl) rfl #[.slice Ao27 t148.length co27] rfl ls_ ?_; (with_reducible refine (coder_carry.calls k (fun k_ => some k_ = (.slice Ao27 t148.length co27 : Value).ownBlock) (.slice Ao27 t148.length co27) t148 t154 w _ ?side1 ?side2 A33.out).mono ?_); (case side1 => repeat (first | (with_reducible first | exact HB.out | apply below_alloc | apply pw_below_drewN | apply below_drew1 | refine below_set ?_ GE144.out | refine below_set ?_ GE145.out) | exact HB.out)); (case side2 => exact Kd.R_tight rfl HO150.out); rintro e w38 ⟨rfl, hy0, hb, hkp⟩; refine ⟨_, rfl, ?_⟩; have n0_ := Am (blk_kept (bK BK144.out) hkp (fun hs_ => (fun e_ => (Kd.R_ne HO150.out BK144.out (by decide)) e_) hs_)); have n1_ := Am (blk_kept (bK BK145.out) hkp (fun hs_ => (fun e_ => (Kd.R_ne HO150.out BK145.out (by decide)) e_) hs_)); have n2_ := Am (Kd.R_reok rfl hy0 (fun k_ e_ => HO150.out.1 k_ e_)); have n3_ := Am (hb); clear BK144; clear BK145; clear HO150; clear HB; have BK144 := n0_; have BK145 := n1_; have HO150 := n2_; have HB := n3_; clear n0_ n1_ n2_ n3_; (try clear hb); (try clear hkp); (try clear hy0)))
     go_meet
     case rel => exact ⟨_, (Go.bits .and .u64 (IntKind.u64.wrap (t146 + t153)) 4294967295), (t154), (.slice Ao27 t148.length co27), H', ⟨by first | omega | exact Nat.le_refl _⟩, ⟨by (with_reducible repeat (first | apply Kd.R_alloc | apply Kd.R_drewN | apply Kd.R_drew)); exact HO150.out⟩, ⟨by (with_reducible repeat (first | refine blk_drewN ?_ _ | refine blk_drew ?_ | refine blk_alloc ?_ _)); exact BK144.out⟩, ⟨by (with_reducible repeat (first | refine blk_drewN ?_ _ | refine blk_drew ?_ | refine blk_alloc ?_ _)); exact BK145.out⟩, ⟨bB HB.out⟩⟩
    ·rw [if_neg c32] at H
     have c32b0 : decide (4294967295 < (IntKind.u64.wrap (t146 + t153))) = false := decide_eq_false c32
     clear c32
     (first | rw [c32b0] | (simp only [i64_w, i32_w]; rw [c32b0]) | skip)
     have H' := Am H
     clear H
     go_wp2
     go_meet
     case rel => exact ⟨_, (IntKind.u64.wrap (t146 + t153)), (t148), (.slice Ao27 t148.length co27), H', ⟨by first | omega | exact Nat.le_refl _⟩, ⟨by (with_reducible repeat (first | apply Kd.R_alloc | apply Kd.R_drewN | apply Kd.R_drew)); exact Kd.R_mono (Kd.R_far (p := ⟨gb144, 0, none⟩) (Kd.R_types HO150.out BK144.out (by decide)) (fun _ hk => hk.2) (.int .u64 (IntKind.u64.wrap (t146 + t153)))) (fun _ hk => trivial)⟩, ⟨by (with_reducible repeat (first | refine blk_drewN ?_ _ | refine blk_drew ?_ | refine blk_alloc ?_ _)); refine blk_put (cs := #[.int .u64 t146, .int .u32 t147, .slice Ao27 t148.length co27]) ?_ 0 _ rfl; (with_reducible repeat (first | refine blk_drewN ?_ _ | refine blk_drew ?_ | refine blk_alloc ?_ _)); exact BK144.out⟩, ⟨by (with_reducible repeat (first | refine blk_drewN ?_ _ | refine blk_drew ?_ | refine blk_alloc ?_ _)); refine blk_far ?_ NB145_144.out _; (with_reducible repeat (first | refine blk_drewN ?_ _ | refine blk_drew ?_ | refine blk_alloc ?_ _)); exact BK145.out⟩, ⟨bB HB.out⟩⟩
   case rest =>
    clear HC20
    try clear c1
    try clear c2
    try clear p2
    try clear c3
    try clear c6
    try clear c7
    try clear c8
    try clear c8b0
    try clear c8b1
    try clear c10
    try clear c11
    try clear c23
    try clear c32
    try clear c32b0
    try clear c34
    try clear hcz12_0
    try clear hcz12_1
    try clear hcz12_2
    try clear hcz14_0
    try clear hcz14_1
    try clear hcz14_2
    try clear hcz17_0
    try clear hcz17_1
    try clear hcz17_2
    try clear hcz18_0
    try clear hcz18_1
    try clear hcz18_2
    try clear hcz24_0
    try clear hcz24_1
    try clear hcz24_2
    try clear hcz26_0
    try clear hcz26_1
    try clear hcz26_2
    try clear hcz29_0
    try clear hcz29_1
    try clear hcz29_2
    try clear hcz31_0
    try clear hcz31_1
    try clear hcz31_2
    try clear hcz35_0
    try clear hcz35_1
    try clear hcz35_2
    try clear hcz37_0
    try clear hcz37_1
    try clear hcz37_2
    try clear hfz12_0
    try clear hfz12_1
    try clear hfz12_2
    try clear hfz14_0
    try clear hfz14_1
    try clear hfz14_2
    try clear hfz17_0
    try clear hfz17_1
    try clear hfz17_2
    try clear hfz18_0
    try clear hfz18_1
    try clear hfz18_2
    try clear hfz24_0
    try clear hfz24_1
    try clear hfz24_2
    try clear hfz26_0
    try clear hfz26_1
    try clear hfz26_2
    try clear hfz29_0
    try clear hfz29_1
    try clear hfz29_2
    try clear hfz31_0
    try clear hfz31_1
    try clear hfz31_2
    try clear hfz35_0
    try clear hfz35_1
    try clear hfz35_2
    try clear hfz37_0
    try clear hfz37_1
    try clear hfz37_2
    obtain ⟨kq, x145000_19, x145002_19, u145002, HA, HJ19, HO_145002, BK144, BK145, HB⟩ := hcut
    cases kq with
    | zero => exact absurd HA.out (by simp [coder_Put.j0])
    | succ kj19 =>
     have H := HA.out
     clear HA
     simp only [coder_Put.j0] at H
     have H' := Am H
     clear H
     go_wp2
     go_loopg [10] kj19 (fun kq v10 w' => ∃ (x10_2 : Int) (x145000_2 : Int) (x145002_2 : List Int) (u145002 : Value), v10 = .int .u32 x10_2 ∧ Aside0 (coder_Put.l0 kq x10_2 x145000_2 t147 x145002_2 = some (r1, r2, r3, r4)) ∧ Aside0 (kq ≤ kj19) ∧ Aside0 (Kd.R (Kd.int .u8) 5 w' w.heap.size (fun _ => True) u145002 x145002_2) ∧ Aside0 (w'.heap[gb144]? = some (.cells #[.int .u64 x145000_2, .int .u32 t147, u145002] 52 (0, 0))) ∧ Aside0 (w'.heap[gb145]? = some (.cells #[.int .u64 0, .int .u32 0, (.slice none 0 0)] 52 (0, 0))) ∧ Aside0 (Below w.heap.size w w'))
     case atStart => exact ⟨(t152), (x145000_19), (x145002_19), (u145002), rs_, H', ⟨Nat.le_refl _⟩, ⟨by (with_reducible repeat (first | apply Kd.R_alloc | apply Kd.R_drewN | apply Kd.R_drew)); exact HO_145002.out⟩, ⟨by (with_reducible repeat (first | refine blk_drewN ?_ _ | refine blk_drew ?_ | refine blk_alloc ?_ _)); exact BK144.out⟩, ⟨by (with_reducible repeat (first | refine blk_drewN ?_ _ | refine blk_drew ?_ | refine blk_alloc ?_ _)); exact BK145.out⟩, ⟨bB HB.out⟩⟩
     case round =>
      clear H'
      try clear c1
      try clear c2
      try clear p2
      try clear c3
      try clear c6
      try clear c7
      try clear c8
      try clear c8b0
      try clear c8b1
      try clear c10
      try clear c11
      try clear c23
      try clear c32
      try clear c32b0
      try clear c34
      try clear hcz12_0
      try clear hcz12_1
      try clear hcz12_2
      try clear hcz14_0
      try clear hcz14_1
      try clear hcz14_2
      try clear hcz17_0
      try clear hcz17_1
      try clear hcz17_2
      try clear hcz18_0
      try clear hcz18_1
      try clear hcz18_2
      try clear hcz24_0
      try clear hcz24_1
      try clear hcz24_2
      try clear hcz26_0
      try clear hcz26_1
      try clear hcz26_2
      try clear hcz29_0
      try clear hcz29_1
      try clear hcz29_2
      try clear hcz31_0
      try clear hcz31_1
      try clear hcz31_2
      try clear hcz35_0
      try clear hcz35_1
      try clear hcz35_2
      try clear hcz37_0
      try clear hcz37_1
      try clear hcz37_2
      try clear hfz12_0
      try clear hfz12_1
      try clear hfz12_2
      try clear hfz14_0
      try clear hfz14_1
      try clear hfz14_2
      try clear hfz17_0
      try clear hfz17_1
      try clear hfz17_2
      try clear hfz18_0
      try clear hfz18_1
      try clear hfz18_2
      try clear hfz24_0
      try clear hfz24_1
      try clear hfz24_2
      try clear hfz26_0
      try clear hfz26_1
      try clear hfz26_2
      try clear hfz29_0
      try clear hfz29_1
      try clear hfz29_2
      try clear hfz31_0
      try clear hfz31_1
      try clear hfz31_2
      try clear hfz35_0
      try clear hfz35_1
      try clear hfz35_2
      try clear hfz37_0
      try clear hfz37_1
      try clear hfz37_2
      try clear p2
      obtain ⟨x10_2, x145000_2, x145002_2, u145002, rfl, HA, HK2, HO_145002, BK144, BK145, HB⟩ := hrel
      cases gk with
      | zero => exact absurd HA.out (by simp [coder_Put.l0])
      | succ k2 =>
       have H := HA.out
       clear HA
       simp only [coder_Put.l0] at H
       by_cases c39 : x10_2 < 16777216
       ·rw [if_pos c39] at H
        have c39b0 : decide (x10_2 < 16777216) = true := decide_eq_true c39
        clear c39
        by_cases c40 : x145002_2.length < 140737488355328
        ·rw [if_pos c40] at H
         have LMc40 := Am c40
         clear c40
         obtain ⟨y155, hy155⟩ : ∃ y_ : List Int, y_ = (x145002_2 ++ [(x145000_2 / 16777216) % 256]) := ⟨_, rfl⟩
         replace H : (coder_Put.l0 k2 ((x10_2 * 256) % 4294967296) (Go.bits .and .u64 (IntKind.u64.wrap (x145000_2 * 256)) 4294967295) t147 y155) = some (r1, r2, r3, r4) := by first | (rw [hy155]; with_reducible exact H) | (have H2_ := (Option.bind_some _ _).symm.trans H; rw [hy155]; with_reducible exact H2_) | (have H2_ := (Option.bind_some _ _).symm.trans H; with_reducible exact H2_) | with_reducible exact H | (rw [hy155]; exact H) | exact H
         have Ny155 := Am hy155
         clear hy155
         have H' := Am H
         clear H
         have hnb41 := NB144_145.out
         have hnc41 := NB145_144.out
         have hcz42_0 : wr.cell? ⟨gb144, 0, none⟩ = some (.int .u64 x145000_2) := (blk_cell BK144.out 0).trans rfl
         have hcz42_1 : wr.cell? ⟨gb144, 1, none⟩ = some (.int .u32 t147) := (blk_cell BK144.out 1).trans rfl
         have hcz42_2 : wr.cell? ⟨gb144, 2, none⟩ = some (u145002) := (blk_cell BK144.out 2).trans rfl
         have hfz42_0 := blk_frozen BK144.out 0
         have hfz42_1 := blk_frozen BK144.out 1
         have hfz42_2 := blk_frozen BK144.out 2
         go_wp2_with (first | ((with_reducible refine gate_builtin (b := .append) (xs := #[.tmp 52, .tmp 57]) rfl ?_); at_builtin; refine Kd.R_append (Kd.int .u8) (w0 := w) w.heap.size rfl (.tmp 52) (.tmp 57) 28 5 (.int .u8 0) 1 rfl Try.underlying28 info5 rfl (by decide) (by omega) u145002 x145002_2 ((x145000_2 / 16777216) % 256) [.int .u8 ((x145000_2 / 16777216) % 256)] (fun _ => True) (fun _ => False) rfl rfl ?aP (fun _ hk => hk.elim) ?aF ?aO ?aB ?aS ?aL ?_; (case aP => exact rfl); (case aB => exact (bB HB.out)); (case aF => exact (fun _ _ => trivial)); (case aO => exact (kR HO_145002.out)); (case aS => exact (below_size (bB HB.out))); (case aL => have := LMc40.out; omega); intro v156 w43 ho hb hg hat; rw [← Ny155.out] at ho; have n0_ := Am (blk_grown (g := gb144) (o := .cells #[.int .u64 x145000_2, .int .u32 t147, u145002] 52 (0, 0)) (bK BK144.out) hg (Kd.R_ne HO_145002.out BK144.out (by decide))); have n1_ := Am (blk_grown (g := gb145) (o := .cells #[.int .u64 0, .int .u32 0, .slice none 0 0] 52 (0, 0)) (bK BK145.out) hg (Kd.R_ne HO_145002.out BK145.out (by decide))); have n2_ := Am (hb); have n3_ := Am (ho); clear BK144; clear BK145; clear HB; clear HO_145002; have BK144 := n0_; have BK145 := n1_; have HB := n2_; have HO157 := n3_; clear n0_ n1_ n2_ n3_; clear ho hb hg hat; obtain ⟨Ao44, co44, eo44⟩ := Kd.R_slice HO157.out; subst eo44; have hcz45_0 : w43.cell? ⟨gb144, 0, none⟩ = some (.int .u64 x145000_2) := (blk_cell BK144.out 0).trans rfl; have hcz45_1 : w43.cell? ⟨gb144, 1, none⟩ = some (.int .u32 t147) := (blk_cell BK144.out 1).trans rfl; have hcz45_2 : w43.cell? ⟨gb144, 2, none⟩ = some (u145002) := (blk_cell BK144.out 2).trans rfl; have hfz45_0 := blk_frozen BK144.out 0; have hfz45_1 := blk_frozen BK144.out 1; have hfz45_2 := blk_frozen BK144.out 2))
         go_roundg k2
         case measure => have := HJ19.out; have := HK2.out; omega
         case rel => exact ⟨((x10_2 * 256) % 4294967296), (Go.bits .and .u64 (IntKind.u64.wrap (x145000_2 * 256)) 4294967295), (y155), (.slice Ao44 y155.length co44), rs_, H', ⟨by have := HJ19.out; have := HK2.out; omega⟩, ⟨by (with_reducible repeat (first | apply Kd.R_alloc | apply Kd.R_drewN | apply Kd.R_drew)); exact Kd.R_mono (Kd.R_far (p := ⟨gb144, 0, none⟩) (Kd.R_far (p := ⟨gb144, 2, none⟩) (Kd.R_types HO157.out BK144.out (by decide)) (fun _ hk => hk.2) (.slice Ao44 y155.length co44)) (fun _ hk => hk.2) (.int .u64 (Go.bits .and .u64 (IntKind.u64.wrap (x145000_2 * 256)) 4294967295))) (fun _ hk => trivial)⟩, ⟨by (with_reducible repeat (first | refine blk_drewN ?_ _ | refine blk_drew ?_ | refine blk_alloc ?_ _)); refine blk_put (cs := #[.int .u64 x145000_2, .int .u32 t147, .slice Ao44 y155.length co44]) ?_ 0 _ rfl; (with_reducible repeat (first | refine blk_drewN ?_ _ | refine blk_drew ?_ | refine blk_alloc ?_ _)); refine blk_put (cs := #[.int .u64 x145000_2, .int .u32 t147, u145002]) ?_ 2 _ rfl; (with_reducible repeat (first | refine blk_drewN ?_ _ | refine blk_drew ?_ | refine blk_alloc ?_ _)); exact BK144.out⟩, ⟨by (with_reducible repeat (first | refine blk_drewN ?_ _ | refine blk_drew ?_ | refine blk_alloc ?_ _)); refine blk_far ?_ NB145_144.out _; (with_reducible repeat (first | refine blk_drewN ?_ _ | refine blk_drew ?_ | refine blk_alloc ?_ _)); refine blk_far ?_ NB145_144.out _; (with_reducible repeat (first | refine blk_drewN ?_ _ | refine blk_drew ?_ | refine blk_alloc ?_ _)); exact BK145.out⟩, ⟨bB HB.out⟩⟩
        ·rw [if_neg c40] at H
         exact absurd H (by simp)
       ·rw [if_neg c39] at H
        have c39b0 : decide (x10_2 < 16777216) = false := decide_eq_false c39
        clear c39
        simp only [Option.some.injEq, Prod.mk.injEq] at H
        obtain ⟨rfl, rfl, rfl, rfl⟩ := H
        have hnb46 := NB144_145.out
        have hnc46 := NB145_144.out
        have hcz47_0 : wr.cell? ⟨gb144, 0, none⟩ = some (.int .u64 x145000_2) := (blk_cell BK144.out 0).trans rfl
        have hcz47_1 : wr.cell? ⟨gb144, 1, none⟩ = some (.int .u32 t147) := (blk_cell BK144.out 1).trans rfl
        have hcz47_2 : wr.cell? ⟨gb144, 2, none⟩ = some (u145002) := (blk_cell BK144.out 2).trans rfl
        have hfz47_0 := blk_frozen BK144.out 0
        have hfz47_1 := blk_frozen BK144.out 1
        have hfz47_2 := blk_frozen BK144.out 2
        have hcz48_0 : wr.cell? ⟨gb145, 0, none⟩ = some (.int .u64 0) := (blk_cell BK145.out 0).trans rfl
        have hcz48_1 : wr.cell? ⟨gb145, 1, none⟩ = some (.int .u32 0) := (blk_cell BK145.out 1).trans rfl
        have hcz48_2 : wr.cell? ⟨gb145, 2, none⟩ = some (.slice none 0 0) := (blk_cell BK145.out 2).trans rfl
        have hfz48_0 := blk_frozen BK145.out 0
        have hfz48_1 := blk_frozen BK145.out 1
        have hfz48_2 := blk_frozen BK145.out 2
        obtain ⟨Ao49, co49, eo49⟩ := Kd.R_slice HO_145002.out
        subst eo49
        go_wp2
        refine bodyPost_ret (results_ct rfl _ _ gb145 52 #[.int .u64 x145000_2, .int .u32 x10_2, .slice Ao49 x145002_2.length co49] (0, 0) _ rfl (by (with_reducible repeat (first | refine blk_drewN ?_ _ | refine blk_drew ?_ | refine blk_alloc ?_ _)); refine blk_put (cs := #[.int .u64 x145000_2, .int .u32 x10_2, .slice none 0 0]) ?_ 2 _ rfl; (with_reducible repeat (first | refine blk_drewN ?_ _ | refine blk_drew ?_ | refine blk_alloc ?_ _)); refine blk_put (cs := #[.int .u64 x145000_2, .int .u32 0, .slice none 0 0]) ?_ 1 _ rfl; (with_reducible repeat (first | refine blk_drewN ?_ _ | refine blk_drew ?_ | refine blk_alloc ?_ _)); refine blk_put (cs := #[.int .u64 0, .int .u32 0, .slice none 0 0]) ?_ 0 _ rfl; (with_reducible repeat (first | refine blk_drewN ?_ _ | refine blk_drew ?_ | refine blk_alloc ?_ _)); refine blk_far ?_ NB145_144.out _; (with_reducible repeat (first | refine blk_drewN ?_ _ | refine blk_drew ?_ | refine blk_alloc ?_ _)); exact BK145.out) Try.underlying52 rfl (by kernel_rfl)) rfl ?_
        exact ⟨_, by first | rfl | (simp [errW_none, errW_some] <;> rfl) | (simp [*, errW_none, errW_some] <;> rfl), by (with_reducible repeat (first | apply Kd.R_alloc | apply Kd.R_drewN | apply Kd.R_drew)); exact Kd.R_mono (Kd.R_far (p := ⟨gb145, 2, none⟩) (Kd.R_far (p := ⟨gb145, 1, none⟩) (Kd.R_far (p := ⟨gb145, 0, none⟩) (Kd.R_far (p := ⟨gb144, 1, none⟩) (Kd.R_types (Kd.R_types HO_145002.out BK144.out (by decide)) BK145.out (by decide)) (fun _ hk => hk.1.2) (.int .u32 x10_2)) (fun _ hk => hk.2) (.int .u64 x145000_2)) (fun _ hk => hk.2) (.int .u32 x10_2)) (fun _ hk => hk.2) (.slice Ao49 x145002_2.length co49)) (fun _ hk => trivial), bB HB.out⟩
 ·replace c7 := Bool.eq_false_iff.mpr c7
  subst c7
  have H1 : (some (t146, t147, t148, 1)) = some (r1, r2, r3, r4) := by rw [if_neg (show ¬ (false = true) by decide)] at H; exact H
  clear H
  have H := H1
  clear H1
  simp only [Option.some.injEq, Prod.mk.injEq] at H
  obtain ⟨rfl, rfl, rfl, rfl⟩ := H
  go_enter Try.func60, Try.ntmps60
  go_wp2_with (first | ((with_reducible refine gate_dst (N := 4) rfl ?_); refine box_event ?hg (N := 4) ?hd (cs := #[.int .u64 a0_0, .int .u32 a0_1, .slice A0_2 l0_2.length c0_2]) (t := 52) ?hr ?_; (case hd => rfl); (case hg => rfl); (case hr => first | (go_simp; done) | (go_simp; rfl)); intro gb144 hg w50 hbox hb; have n0_ := Am (below_step (bB HB.out) hb); have n1_ := Am (hbox); have n2_ := Am ((by rw [hg]; exact (below_size (bB HB.out)) : w.heap.size ≤ gb144)); have n3_ := Am ((by rw [hg]; exact (below_size (bB HB.out)) : w.heap.size ≤ gb144)); clear HB; have HB := n0_; have BK144 := n1_; have GW144 := n2_; have GE144 := n3_; clear n0_ n1_ n2_ n3_; clear hb hbox hg) | ((with_reducible refine gate_dst (N := 8) rfl ?_); refine box_event ?hg (N := 8) ?hd (cs := #[.int .u64 0, .int .u32 0, .slice none 0 0]) (t := 52) ?hr ?_; (case hd => rfl); (case hg => rfl); (case hr => first | (go_simp; done) | (go_simp; rfl)); intro gb145 hg w51 hbox hb; have n0_ := Am (blk_below (g := gb144) (o := .cells #[.int .u64 a0_0, .int .u32 a0_1, .slice A0_2 l0_2.length c0_2] 52 (0, 0)) (bK BK144.out) hb); have n1_ := Am (below_step (bB HB.out) hb); have n2_ := Am (hbox); have n3_ := Am ((by rw [hg]; exact (below_size (bB HB.out)) : w.heap.size ≤ gb145)); have n4_ := Am ((by rw [hg]; exact (below_size (bB HB.out)) : w.heap.size ≤ gb145)); have n5_ := Am ((by rw [hg]; exact Nat.ne_of_lt (blk_lt (g := gb144) (o := .cells #[.int .u64 a0_0, .int .u32 a0_1, .slice A0_2 l0_2.length c0_2] 52 (0, 0)) (bK BK144.out)) : gb144 ≠ gb145)); have n6_ := Am ((by rw [hg]; exact Nat.ne_of_gt (blk_lt (g := gb144) (o := .cells #[.int .u64 a0_0, .int .u32 a0_1, .slice A0_2 l0_2.length c0_2] 52 (0, 0)) (bK BK144.out)) : gb145 ≠ gb144)); clear BK144; clear HB; have BK144 := n0_; have HB := n1_; have BK145 := n2_; have GW145 := n3_; have GE145 := n4_; have NB144_145 := n5_; have NB145_144 := n6_; clear n0_ n1_ n2_ n3_ n4_ n5_ n6_; clear hb hbox hg; have hnb52 := NB144_145.out; have hnc52 := NB145_144.out; have hcz53_0 : w51.cell? ⟨gb144, 0, none⟩ = some (.int .u64 a0_0) := (blk_cell BK144.out 0).trans rfl; have hcz53_1 : w51.cell? ⟨gb144, 1, none⟩ = some (.int .u32 a0_1) := (blk_cell BK144.out 1).trans rfl; have hcz53_2 : w51.cell? ⟨gb144, 2, none⟩ = some (.slice A0_2 l0_2.length c0_2) := (blk_cell BK144.out 2).trans rfl; have hfz53_0 := blk_frozen BK144.out 0; have hfz53_1 := blk_frozen BK144.out 1; have hfz53_2 := blk_frozen BK144.out 2) | ((with_reducible refine gate_callee (f := 88) rfl ?_); refine goesL_ (some 13) rfl rfl Try.func88 (by kernel_rfl) rfl #[.agg #[.int .u64 a0_0, .int .u32 a0_1, .slice A0_2 l0_2.length c0_2]] rfl ls_ ?_; (with_reducible refine (coder_own.calls a0_0 a0_1 _ _ l0_2 t146 t147 t148 _ ?side1 ?side2 A5.out).mono ?_); (case side1 => repeat (first | exact (Kd.C_below HR0_2.out HB.out) | (with_reducible refine Kd.C_alloc ?_ _) | (with_reducible refine Kd.C_drewN ?_ _) | (with_reducible refine Kd.C_drew ?_))); (case side2 => exact HC0_2.out); rintro e w54 ⟨v149, rfl, ho0, hb⟩; refine ⟨_, rfl, ?_⟩; have n0_ := Am (Kd.R_lower ho0 (below_size (bB HB.out))); have n1_ := Am (blk_below (g := gb144) (o := .cells #[.int .u64 a0_0, .int .u32 a0_1, .slice A0_2 l0_2.length c0_2] 52 (0, 0)) (bK BK144.out) hb); have n2_ := Am (blk_below (g := gb145) (o := .cells #[.int .u64 0, .int .u32 0, .slice none 0 0] 52 (0, 0)) (bK BK145.out) hb); have n3_ := Am (below_step (bB HB.out) hb); clear BK144; clear BK145; clear HB; have HO150 := n0_; have BK144 := n1_; have BK145 := n2_; have HB := n3_; clear n0_ n1_ n2_ n3_; (try clear hb); (try clear hb2); (try clear hk); (try clear hi); (try clear ho0); have hcz55_0 : w54.cell? ⟨gb144, 0, none⟩ = some (.int .u64 a0_0) := (blk_cell BK144.out 0).trans rfl; have hcz55_1 : w54.cell? ⟨gb144, 1, none⟩ = some (.int .u32 a0_1) := (blk_cell BK144.out 1).trans rfl; have hcz55_2 : w54.cell? ⟨gb144, 2, none⟩ = some (.slice A0_2 l0_2.length c0_2) := (blk_cell BK144.out 2).trans rfl; have hfz55_0 := blk_frozen BK144.out 0; have hfz55_1 := blk_frozen BK144.out 1; have hfz55_2 := blk_frozen BK144.out 2; obtain ⟨Ao56, co56, eo56⟩ := Kd.R_slice HO150.out; subst eo56) | ((with_reducible refine gate_callee (f := 107) rfl ?_); refine goesL_ (some 17) rfl rfl Try.func107 (by kernel_rfl) rfl #[.int .i64 a1, .int .i64 a2, .int .i64 a3] rfl ls_ ?_; (with_reducible refine (coder_fair.calls a1 a2 a3 false _ A6.out).mono ?_); rintro e w57 ⟨rfl, hb⟩; refine ⟨_, rfl, ?_⟩; have n0_ := Am (Kd.R_below (by (with_reducible repeat (first | apply Kd.R_alloc | apply Kd.R_drewN | apply Kd.R_drew)); exact (Kd.R_mono (Kd.R_far (p := ⟨gb144, 2, none⟩) (Kd.R_far (p := ⟨gb144, 1, none⟩) (Kd.R_far (p := ⟨gb144, 0, none⟩) (Kd.R_types HO150.out BK144.out (by decide)) (fun _ hk => hk.2) (.int .u64 t146)) (fun _ hk => hk.2) (.int .u32 t147)) (fun _ hk => hk.2) (.slice Ao56 t148.length co56)) (fun _ h_ => h_.1))) hb); have n1_ := Am (blk_below (g := gb144) (o := .cells #[.int .u64 t146, .int .u32 t147, .slice Ao56 t148.length co56] 52 (0, 0)) (by (with_reducible repeat (first | refine blk_drewN ?_ _ | refine blk_drew ?_ | refine blk_alloc ?_ _)); refine blk_put (cs := #[.int .u64 t146, .int .u32 t147, .slice A0_2 l0_2.length c0_2]) ?_ 2 _ rfl; (with_reducible repeat (first | refine blk_drewN ?_ _ | refine blk_drew ?_ | refine blk_alloc ?_ _)); refine blk_put (cs := #[.int .u64 t146, .int .u32 a0_1, .slice A0_2 l0_2.length c0_2]) ?_ 1 _ rfl; (with_reducible repeat (first | refine blk_drewN ?_ _ | refine blk_drew ?_ | refine blk_alloc ?_ _)); refine blk_put (cs := #[.int .u64 a0_0, .int .u32 a0_1, .slice A0_2 l0_2.length c0_2]) ?_ 0 _ rfl; (with_reducible repeat (first | refine blk_drewN ?_ _ | refine blk_drew ?_ | refine blk_alloc ?_ _)); exact BK144.out) hb); have n2_ := Am (blk_below (g := gb145) (o := .cells #[.int .u64 0, .int .u32 0, .slice none 0 0] 52 (0, 0)) (by (with_reducible repeat (first | refine blk_drewN ?_ _ | refine blk_drew ?_ | refine blk_alloc ?_ _)); refine blk_far ?_ NB145_144.out _; (with_reducible repeat (first | refine blk_drewN ?_ _ | refine blk_drew ?_ | refine blk_alloc ?_ _)); refine blk_far ?_ NB145_144.out _; (with_reducible repeat (first | refine blk_drewN ?_ _ | refine blk_drew ?_ | refine blk_alloc ?_ _)); refine blk_far ?_ NB145_144.out _; (with_reducible repeat (first | refine blk_drewN ?_ _ | refine blk_drew ?_ | refine blk_alloc ?_ _)); exact BK145.out) hb); have n3_ := Am (below_step (bB HB.out) hb); clear HO150; clear BK144; clear BK145; clear HB; have HO150 := n0_; have BK144 := n1_; have BK145 := n2_; have HB := n3_; clear n0_ n1_ n2_ n3_; (try clear hb); (try clear hb2); (try clear hk); (try clear hi); have hcz58_0 : w57.cell? ⟨gb144, 0, none⟩ = some (.int .u64 t146) := (blk_cell BK144.out 0).trans rfl; have hcz58_1 : w57.cell? ⟨gb144, 1, none⟩ = some (.int .u32 t147) := (blk_cell BK144.out 1).trans rfl; have hcz58_2 : w57.cell? ⟨gb144, 2, none⟩ = some (.slice Ao56 t148.length co56) := (blk_cell BK144.out 2).trans rfl; have hfz58_0 := blk_frozen BK144.out 0; have hfz58_1 := blk_frozen BK144.out 1; have hfz58_2 := blk_frozen BK144.out 2; have hcz59_0 : w57.cell? ⟨gb145, 0, none⟩ = some (.int .u64 0) := (blk_cell BK145.out 0).trans rfl; have hcz59_1 : w57.cell? ⟨gb145, 1, none⟩ = some (.int .u32 0) := (blk_cell BK145.out 1).trans rfl; have hcz59_2 : w57.cell? ⟨gb145, 2, none⟩ = some (.slice none 0 0) := (blk_cell BK145.out 2).trans rfl; have hfz59_0 := blk_frozen BK145.out 0; have hfz59_1 := blk_frozen BK145.out 1; have hfz59_2 := blk_frozen BK145.out 2))
  refine bodyPost_ret (results_ct rfl _ _ gb145 52 #[.int .u64 t146, .int .u32 t147, .slice Ao56 t148.length co56] (0, 0) _ rfl (by (with_reducible repeat (first | refine blk_drewN ?_ _ | refine blk_drew ?_ | refine blk_alloc ?_ _)); refine blk_put (cs := #[.int .u64 t146, .int .u32 t147, .slice none 0 0]) ?_ 2 _ rfl; (with_reducible repeat (first | refine blk_drewN ?_ _ | refine blk_drew ?_ | refine blk_alloc ?_ _)); refine blk_put (cs := #[.int .u64 t146, .int .u32 0, .slice none 0 0]) ?_ 1 _ rfl; (with_reducible repeat (first | refine blk_drewN ?_ _ | refine blk_drew ?_ | refine blk_alloc ?_ _)); refine blk_put (cs := #[.int .u64 0, .int .u32 0, .slice none 0 0]) ?_ 0 _ rfl; (with_reducible repeat (first | refine blk_drewN ?_ _ | refine blk_drew ?_ | refine blk_alloc ?_ _)); exact BK145.out) Try.underlying52 rfl (by kernel_rfl)) rfl ?_
  exact ⟨_, by first | rfl | (simp [errW_none, errW_some] <;> rfl) | (simp [*, errW_none, errW_some] <;> rfl), by (with_reducible repeat (first | apply Kd.R_alloc | apply Kd.R_drewN | apply Kd.R_drew)); exact Kd.R_mono (Kd.R_far (p := ⟨gb145, 2, none⟩) (Kd.R_far (p := ⟨gb145, 1, none⟩) (Kd.R_far (p := ⟨gb145, 0, none⟩) (Kd.R_types HO150.out BK145.out (by decide)) (fun _ hk => hk.2) (.int .u64 t146)) (fun _ hk => hk.2) (.int .u32 t147)) (fun _ hk => hk.2) (.slice Ao56 t148.length co56)) (fun _ hk => trivial), bB HB.out⟩

/-! ### coder_halves: function 118 -/
set_option maxHeartbeats 8000000 in
set_option maxRecDepth 100000 in
theorem coder_halves.calls (a0 : Int) (r1 : Int) (r2 : Int) (w : World) (h : coder_halves.f a0 = some (r1, r2)) :
  Calls Try.prog 118 #[.int .u64 a0] w fun e w' => e = .returned (.tuple #[.int .i64 r1, .int .i64 r2]) ∧ Below w.heap.size w w' := by
 have HB := Am (Below.refl w.heap.size w)
 have H : (if a0 ≤ 65536 then (some (wrap64 (a0), 1)) else (some (wrap64 ((wrap64 (IntKind.u64.wrap (Int.tdiv (IntKind.u64.wrap (a0 - 1)) 65536))) + 1), 65536))) = some (r1, r2) := h
 clear h
 by_cases c2 : a0 ≤ 65536
 ·rw [if_pos c2] at H
  have c2b0 : decide (a0 ≤ 65536) = true := decide_eq_true c2
  clear c2
  simp only [Option.some.injEq, Prod.mk.injEq] at H
  obtain ⟨rfl, rfl⟩ := H
  go_enter Try.func118, Try.ntmps118
  go_wp2
  go_ret2
  exact ⟨by first | rfl | (simp [errW_none, errW_some] <;> rfl) | (simp [*, errW_none, errW_some] <;> rfl), bB HB.out⟩
 ·rw [if_neg c2] at H
  have c2b0 : decide (a0 ≤ 65536) = false := decide_eq_false c2
  clear c2
  simp only [Option.some.injEq, Prod.mk.injEq] at H
  obtain ⟨rfl, rfl⟩ := H
  go_enter Try.func118, Try.ntmps118
  go_wp2
  go_ret2
  exact ⟨by first | rfl | (simp [errW_none, errW_some] <;> rfl) | (simp [*, errW_none, errW_some] <;> rfl), bB HB.out⟩

end Go.Proofs.Ytgknajladloffaa.Q
