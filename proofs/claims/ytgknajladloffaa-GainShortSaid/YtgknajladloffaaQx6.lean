-- by a program of this session (wip/myprint.py)
import Derived.Test.YtgknajladloffaaDx6
import Derived.Test.YtgknajladloffaaQx0
import Derived.Test.YtgknajladloffaaQx5
namespace Go.Proofs.Ytgknajladloffaa.Q
open Go.RowKit Go.Proofs.YtgknajladloffaaW.PrintWords Go.Proofs.YtgknajladloffaaW.PrintLast Go.Proofs.YtgknajladloffaaW.PrintMore
attribute [local go_sem] max2_int min2_int max_two min_two max_three min_three max_four min_four   -- for this text's walks alone
set_option linter.unusedVariables false
set_option linter.unusedSimpArgs false

/-! ### coder_PutNum: function 66 -/
set_option maxHeartbeats 8000000 in
set_option maxRecDepth 100000 in
theorem coder_PutNum.calls (k : Nat) (a0_0 : Int) (a0_1 : Int) (A0_2 : Option Addr) (c0_2 : Nat) (l0_2 : List Int) (a1 : Int) (a2 : Int) (r1 : Int) (r2 : Int) (r3 : List Int) (r4 : Int) (w : World) (hr0_2 : Kd.C (Kd.int .u8) w A0_2 l0_2.length l0_2) (hc0_2 : l0_2.length ≤ c0_2) (h : coder_PutNum.f k a0_0 a0_1 l0_2 a1 a2 = some (r1, r2, r3, r4)) :
  Calls Try.prog 66 #[.agg #[.int .u64 a0_0, .int .u32 a0_1, .slice A0_2 l0_2.length c0_2], .int .u64 a1, .int .u64 a2] w fun e w' => ∃ v2_ : Value, e = .returned (.tuple #[.agg #[.int .u64 r1, .int .u32 r2, v2_], .int .i64 r4]) ∧ Kd.R (Kd.int .u8) 5 w' w.heap.size (fun _ => True) v2_ r3 ∧ Below w.heap.size w w' := by
 have hu52 := Try.underlying52
 have HR0_2 := Am hr0_2
 have HC0_2 := Am hc0_2
 clear hr0_2 hc0_2
 have HB := Am (Below.refl w.heap.size w)
 have H : ((coder_own.f a0_0 a0_1 l0_2).bind fun bt160 => (if a2 < 1 then (coder_PutNum.j0 k a1 a2 true bt160.1 bt160.2.1 bt160.2.2) else (if a2 > 4294967296 then (coder_PutNum.j0 k a1 a2 true bt160.1 bt160.2.1 bt160.2.2) else (coder_PutNum.j0 k a1 a2 (decide (a1 ≥ a2)) bt160.1 bt160.2.1 bt160.2.2)))) = some (r1, r2, r3, r4) := h
 clear h
 replace H := Option.bind_eq_some_iff.mp H
 obtain ⟨⟨t160, t161, t162⟩, A40, H⟩ := H
 replace H : (if a2 < 1 then (coder_PutNum.j0 k a1 a2 true t160 t161 t162) else (if a2 > 4294967296 then (coder_PutNum.j0 k a1 a2 true t160 t161 t162) else (coder_PutNum.j0 k a1 a2 (decide (a1 ≥ a2)) t160 t161 t162))) = some (r1, r2, r3, r4) := H
 have A4 := Am A40
 clear A40
 have HC5 := Am H
 clear H
 go_enter Try.func66, Try.ntmps66
 go_upto_region 2 with (first | ((with_reducible refine gate_dst (N := 3) rfl ?_); refine box_event ?hg (N := 3) ?hd (cs := #[.int .u64 a0_0, .int .u32 a0_1, .slice A0_2 l0_2.length c0_2]) (t := 52) ?hr ?_; (case hd => rfl); (case hg => rfl); (case hr => first | (go_simp; done) | (go_simp; rfl)); intro gb158 hg w6 hbox hb; have n0_ := Am (below_step (bB HB.out) hb); have n1_ := Am (hbox); have n2_ := Am ((by rw [hg]; exact (below_size (bB HB.out)) : w.heap.size ≤ gb158)); have n3_ := Am ((by rw [hg]; exact (below_size (bB HB.out)) : w.heap.size ≤ gb158)); clear HB; have HB := n0_; have BK158 := n1_; have GW158 := n2_; have GE158 := n3_; clear n0_ n1_ n2_ n3_; clear hb hbox hg) | ((with_reducible refine gate_dst (N := 6) rfl ?_); refine box_event ?hg (N := 6) ?hd (cs := #[.int .u64 0, .int .u32 0, .slice none 0 0]) (t := 52) ?hr ?_; (case hd => rfl); (case hg => rfl); (case hr => first | (go_simp; done) | (go_simp; rfl)); intro gb159 hg w7 hbox hb; have n0_ := Am (blk_below (g := gb158) (o := .cells #[.int .u64 a0_0, .int .u32 a0_1, .slice A0_2 l0_2.length c0_2] 52 (0, 0)) (bK BK158.out) hb); have n1_ := Am (below_step (bB HB.out) hb); have n2_ := Am (hbox); have n3_ := Am ((by rw [hg]; exact (below_size (bB HB.out)) : w.heap.size ≤ gb159)); have n4_ := Am ((by rw [hg]; exact (below_size (bB HB.out)) : w.heap.size ≤ gb159)); have n5_ := Am ((by rw [hg]; exact Nat.ne_of_lt (blk_lt (g := gb158) (o := .cells #[.int .u64 a0_0, .int .u32 a0_1, .slice A0_2 l0_2.length c0_2] 52 (0, 0)) (bK BK158.out)) : gb158 ≠ gb159)); have n6_ := Am ((by rw [hg]; exact Nat.ne_of_gt (blk_lt (g := gb158) (o := .cells #[.int .u64 a0_0, .int .u32 a0_1, .slice A0_2 l0_2.length c0_2] 52 (0, 0)) (bK BK158.out)) : gb159 ≠ gb158)); clear BK158; clear HB; have BK158 := n0_; have HB := n1_; have BK159 := n2_; have GW159 := n3_; have GE159 := n4_; have NB158_159 := n5_; have NB159_158 := n6_; clear n0_ n1_ n2_ n3_ n4_ n5_ n6_; clear hb hbox hg; have hnb8 := NB158_159.out; have hnc8 := NB159_158.out; have hcz9_0 : w7.cell? ⟨gb158, 0, none⟩ = some (.int .u64 a0_0) := (blk_cell BK158.out 0).trans rfl; have hcz9_1 : w7.cell? ⟨gb158, 1, none⟩ = some (.int .u32 a0_1) := (blk_cell BK158.out 1).trans rfl; have hcz9_2 : w7.cell? ⟨gb158, 2, none⟩ = some (.slice A0_2 l0_2.length c0_2) := (blk_cell BK158.out 2).trans rfl; have hfz9_0 := blk_frozen BK158.out 0; have hfz9_1 := blk_frozen BK158.out 1; have hfz9_2 := blk_frozen BK158.out 2) | (go_at_call 88; (with_reducible refine (coder_own.calls a0_0 a0_1 _ _ l0_2 t160 t161 t162 _ ?side1 ?side2 A4.out).mono ?_); (case side1 => repeat (first | exact (Kd.C_below HR0_2.out HB.out) | (with_reducible refine Kd.C_alloc ?_ _) | (with_reducible refine Kd.C_drewN ?_ _) | (with_reducible refine Kd.C_drew ?_))); (case side2 => exact HC0_2.out); rintro e w10 ⟨v163, rfl, ho0, hb⟩; have n0_ := Am (Kd.R_lower ho0 (below_size (bB HB.out))); have n1_ := Am (blk_below (g := gb158) (o := .cells #[.int .u64 a0_0, .int .u32 a0_1, .slice A0_2 l0_2.length c0_2] 52 (0, 0)) (bK BK158.out) hb); have n2_ := Am (blk_below (g := gb159) (o := .cells #[.int .u64 0, .int .u32 0, .slice none 0 0] 52 (0, 0)) (bK BK159.out) hb); have n3_ := Am (below_step (bB HB.out) hb); clear BK158; clear BK159; clear HB; have HO164 := n0_; have BK158 := n1_; have BK159 := n2_; have HB := n3_; clear n0_ n1_ n2_ n3_; (try clear hb); (try clear hb2); (try clear hk); (try clear hi); (try clear ho0); have hcz11_0 : w10.cell? ⟨gb158, 0, none⟩ = some (.int .u64 a0_0) := (blk_cell BK158.out 0).trans rfl; have hcz11_1 : w10.cell? ⟨gb158, 1, none⟩ = some (.int .u32 a0_1) := (blk_cell BK158.out 1).trans rfl; have hcz11_2 : w10.cell? ⟨gb158, 2, none⟩ = some (.slice A0_2 l0_2.length c0_2) := (blk_cell BK158.out 2).trans rfl; have hfz11_0 := blk_frozen BK158.out 0; have hfz11_1 := blk_frozen BK158.out 1; have hfz11_2 := blk_frozen BK158.out 2; obtain ⟨Ao12, co12, eo12⟩ := Kd.R_slice HO164.out; subst eo12))
 repeat (go_quiet (first | ((with_reducible refine gate_dst (N := 3) rfl ?_); refine box_event ?hg (N := 3) ?hd (cs := #[.int .u64 a0_0, .int .u32 a0_1, .slice A0_2 l0_2.length c0_2]) (t := 52) ?hr ?_; (case hd => rfl); (case hg => rfl); (case hr => first | (go_simp; done) | (go_simp; rfl)); intro gb158 hg w6 hbox hb; have n0_ := Am (below_step (bB HB.out) hb); have n1_ := Am (hbox); have n2_ := Am ((by rw [hg]; exact (below_size (bB HB.out)) : w.heap.size ≤ gb158)); have n3_ := Am ((by rw [hg]; exact (below_size (bB HB.out)) : w.heap.size ≤ gb158)); clear HB; have HB := n0_; have BK158 := n1_; have GW158 := n2_; have GE158 := n3_; clear n0_ n1_ n2_ n3_; clear hb hbox hg) | ((with_reducible refine gate_dst (N := 6) rfl ?_); refine box_event ?hg (N := 6) ?hd (cs := #[.int .u64 0, .int .u32 0, .slice none 0 0]) (t := 52) ?hr ?_; (case hd => rfl); (case hg => rfl); (case hr => first | (go_simp; done) | (go_simp; rfl)); intro gb159 hg w7 hbox hb; have n0_ := Am (blk_below (g := gb158) (o := .cells #[.int .u64 a0_0, .int .u32 a0_1, .slice A0_2 l0_2.length c0_2] 52 (0, 0)) (bK BK158.out) hb); have n1_ := Am (below_step (bB HB.out) hb); have n2_ := Am (hbox); have n3_ := Am ((by rw [hg]; exact (below_size (bB HB.out)) : w.heap.size ≤ gb159)); have n4_ := Am ((by rw [hg]; exact (below_size (bB HB.out)) : w.heap.size ≤ gb159)); have n5_ := Am ((by rw [hg]; exact Nat.ne_of_lt (blk_lt (g := gb158) (o := .cells #[.int .u64 a0_0, .int .u32 a0_1, .slice A0_2 l0_2.length c0_2] 52 (0, 0)) (bK BK158.out)) : gb158 ≠ gb159)); have n6_ := Am ((by rw [hg]; exact Nat.ne_of_gt (blk_lt (g := gb158) (o := .cells #[.int .u64 a0_0, .int .u32 a0_1, .slice A0_2 l0_2.length c0_2] 52 (0, 0)) (bK BK158.out)) : gb159 ≠ gb158)); clear BK158; clear HB; have BK158 := n0_; have HB := n1_; have BK159 := n2_; have GW159 := n3_; have GE159 := n4_; have NB158_159 := n5_; have NB159_158 := n6_; clear n0_ n1_ n2_ n3_ n4_ n5_ n6_; clear hb hbox hg; have hnb8 := NB158_159.out; have hnc8 := NB159_158.out; have hcz9_0 : w7.cell? ⟨gb158, 0, none⟩ = some (.int .u64 a0_0) := (blk_cell BK158.out 0).trans rfl; have hcz9_1 : w7.cell? ⟨gb158, 1, none⟩ = some (.int .u32 a0_1) := (blk_cell BK158.out 1).trans rfl; have hcz9_2 : w7.cell? ⟨gb158, 2, none⟩ = some (.slice A0_2 l0_2.length c0_2) := (blk_cell BK158.out 2).trans rfl; have hfz9_0 := blk_frozen BK158.out 0; have hfz9_1 := blk_frozen BK158.out 1; have hfz9_2 := blk_frozen BK158.out 2) | (go_at_call 88; (with_reducible refine (coder_own.calls a0_0 a0_1 _ _ l0_2 t160 t161 t162 _ ?side1 ?side2 A4.out).mono ?_); (case side1 => repeat (first | exact (Kd.C_below HR0_2.out HB.out) | (with_reducible refine Kd.C_alloc ?_ _) | (with_reducible refine Kd.C_drewN ?_ _) | (with_reducible refine Kd.C_drew ?_))); (case side2 => exact HC0_2.out); rintro e w10 ⟨v163, rfl, ho0, hb⟩; have n0_ := Am (Kd.R_lower ho0 (below_size (bB HB.out))); have n1_ := Am (blk_below (g := gb158) (o := .cells #[.int .u64 a0_0, .int .u32 a0_1, .slice A0_2 l0_2.length c0_2] 52 (0, 0)) (bK BK158.out) hb); have n2_ := Am (blk_below (g := gb159) (o := .cells #[.int .u64 0, .int .u32 0, .slice none 0 0] 52 (0, 0)) (bK BK159.out) hb); have n3_ := Am (below_step (bB HB.out) hb); clear BK158; clear BK159; clear HB; have HO164 := n0_; have BK158 := n1_; have BK159 := n2_; have HB := n3_; clear n0_ n1_ n2_ n3_; (try clear hb); (try clear hb2); (try clear hk); (try clear hi); (try clear ho0); have hcz11_0 : w10.cell? ⟨gb158, 0, none⟩ = some (.int .u64 a0_0) := (blk_cell BK158.out 0).trans rfl; have hcz11_1 : w10.cell? ⟨gb158, 1, none⟩ = some (.int .u32 a0_1) := (blk_cell BK158.out 1).trans rfl; have hcz11_2 : w10.cell? ⟨gb158, 2, none⟩ = some (.slice A0_2 l0_2.length c0_2) := (blk_cell BK158.out 2).trans rfl; have hfz11_0 := blk_frozen BK158.out 0; have hfz11_1 := blk_frozen BK158.out 1; have hfz11_2 := blk_frozen BK158.out 2; obtain ⟨Ao12, co12, eo12⟩ := Kd.R_slice HO164.out; subst eo12)); go_upto_region 2 with (first | ((with_reducible refine gate_dst (N := 3) rfl ?_); refine box_event ?hg (N := 3) ?hd (cs := #[.int .u64 a0_0, .int .u32 a0_1, .slice A0_2 l0_2.length c0_2]) (t := 52) ?hr ?_; (case hd => rfl); (case hg => rfl); (case hr => first | (go_simp; done) | (go_simp; rfl)); intro gb158 hg w6 hbox hb; have n0_ := Am (below_step (bB HB.out) hb); have n1_ := Am (hbox); have n2_ := Am ((by rw [hg]; exact (below_size (bB HB.out)) : w.heap.size ≤ gb158)); have n3_ := Am ((by rw [hg]; exact (below_size (bB HB.out)) : w.heap.size ≤ gb158)); clear HB; have HB := n0_; have BK158 := n1_; have GW158 := n2_; have GE158 := n3_; clear n0_ n1_ n2_ n3_; clear hb hbox hg) | ((with_reducible refine gate_dst (N := 6) rfl ?_); refine box_event ?hg (N := 6) ?hd (cs := #[.int .u64 0, .int .u32 0, .slice none 0 0]) (t := 52) ?hr ?_; (case hd => rfl); (case hg => rfl); (case hr => first | (go_simp; done) | (go_simp; rfl)); intro gb159 hg w7 hbox hb; have n0_ := Am (blk_below (g := gb158) (o := .cells #[.int .u64 a0_0, .int .u32 a0_1, .slice A0_2 l0_2.length c0_2] 52 (0, 0)) (bK BK158.out) hb); have n1_ := Am (below_step (bB HB.out) hb); have n2_ := Am (hbox); have n3_ := Am ((by rw [hg]; exact (below_size (bB HB.out)) : w.heap.size ≤ gb159)); have n4_ := Am ((by rw [hg]; exact (below_size (bB HB.out)) : w.heap.size ≤ gb159)); have n5_ := Am ((by rw [hg]; exact Nat.ne_of_lt (blk_lt (g := gb158) (o := .cells #[.int .u64 a0_0, .int .u32 a0_1, .slice A0_2 l0_2.length c0_2] 52 (0, 0)) (bK BK158.out)) : gb158 ≠ gb159)); have n6_ := Am ((by rw [hg]; exact Nat.ne_of_gt (blk_lt (g := gb158) (o := .cells #[.int .u64 a0_0, .int .u32 a0_1, .slice A0_2 l0_2.length c0_2] 52 (0, 0)) (bK BK158.out)) : gb159 ≠ gb158)); clear BK158; clear HB; have BK158 := n0_; have HB := n1_; have BK159 := n2_; have GW159 := n3_; have GE159 := n4_; have NB158_159 := n5_; have NB159_158 := n6_; clear n0_ n1_ n2_ n3_ n4_ n5_ n6_; clear hb hbox hg; have hnb8 := NB158_159.out; have hnc8 := NB159_158.out; have hcz9_0 : w7.cell? ⟨gb158, 0, none⟩ = some (.int .u64 a0_0) := (blk_cell BK158.out 0).trans rfl; have hcz9_1 : w7.cell? ⟨gb158, 1, none⟩ = some (.int .u32 a0_1) := (blk_cell BK158.out 1).trans rfl; have hcz9_2 : w7.cell? ⟨gb158, 2, none⟩ = some (.slice A0_2 l0_2.length c0_2) := (blk_cell BK158.out 2).trans rfl; have hfz9_0 := blk_frozen BK158.out 0; have hfz9_1 := blk_frozen BK158.out 1; have hfz9_2 := blk_frozen BK158.out 2) | (go_at_call 88; (with_reducible refine (coder_own.calls a0_0 a0_1 _ _ l0_2 t160 t161 t162 _ ?side1 ?side2 A4.out).mono ?_); (case side1 => repeat (first | exact (Kd.C_below HR0_2.out HB.out) | (with_reducible refine Kd.C_alloc ?_ _) | (with_reducible refine Kd.C_drewN ?_ _) | (with_reducible refine Kd.C_drew ?_))); (case side2 => exact HC0_2.out); rintro e w10 ⟨v163, rfl, ho0, hb⟩; have n0_ := Am (Kd.R_lower ho0 (below_size (bB HB.out))); have n1_ := Am (blk_below (g := gb158) (o := .cells #[.int .u64 a0_0, .int .u32 a0_1, .slice A0_2 l0_2.length c0_2] 52 (0, 0)) (bK BK158.out) hb); have n2_ := Am (blk_below (g := gb159) (o := .cells #[.int .u64 0, .int .u32 0, .slice none 0 0] 52 (0, 0)) (bK BK159.out) hb); have n3_ := Am (below_step (bB HB.out) hb); clear BK158; clear BK159; clear HB; have HO164 := n0_; have BK158 := n1_; have BK159 := n2_; have HB := n3_; clear n0_ n1_ n2_ n3_; (try clear hb); (try clear hb2); (try clear hk); (try clear hi); (try clear ho0); have hcz11_0 : w10.cell? ⟨gb158, 0, none⟩ = some (.int .u64 a0_0) := (blk_cell BK158.out 0).trans rfl; have hcz11_1 : w10.cell? ⟨gb158, 1, none⟩ = some (.int .u32 a0_1) := (blk_cell BK158.out 1).trans rfl; have hcz11_2 : w10.cell? ⟨gb158, 2, none⟩ = some (.slice A0_2 l0_2.length c0_2) := (blk_cell BK158.out 2).trans rfl; have hfz11_0 := blk_frozen BK158.out 0; have hfz11_1 := blk_frozen BK158.out 1; have hfz11_2 := blk_frozen BK158.out 2; obtain ⟨Ao12, co12, eo12⟩ := Kd.R_slice HO164.out; subst eo12)))
 (try simp only [Act.put, List.setIfInBounds_toArray, List.set_cons_zero, List.set_cons_succ])
 go_cut [26] (fun v26 wc => ∃ (kq : Nat) (x26_4 : Bool), v26 = .bool x26_4 ∧ Aside0 (coder_PutNum.j0 kq a1 a2 x26_4 t160 t161 t162 = some (r1, r2, r3, r4)) ∧ Aside0 (kq ≤ k) ∧ Aside0 (Kd.R (Kd.int .u8) 5 wc w.heap.size (fun _ => True) (.slice Ao12 t162.length co12) t162) ∧ Aside0 (wc.heap[gb158]? = some (.cells #[.int .u64 t160, .int .u32 t161, (.slice Ao12 t162.length co12)] 52 (0, 0))) ∧ Aside0 (wc.heap[gb159]? = some (.cells #[.int .u64 0, .int .u32 0, (.slice none 0 0)] 52 (0, 0))) ∧ Aside0 (Below w.heap.size w wc))
 case first =>
  have H := HC5.out
  clear HC5
  by_cases c13 : a2 < 1
  ·rw [if_pos c13] at H
   have c13b0 : decide (a2 < 1) = true := decide_eq_true c13
   clear c13
   (first | rw [c13b0] | (simp only [i64_w, i32_w]; rw [c13b0]) | skip)
   have H' := Am H
   clear H
   go_wp2
   repeat (go_quiet (fail); try go_wp2)
   go_meet
   case rel => exact ⟨_, (true), rs_, H', ⟨by first | omega | exact Nat.le_refl _⟩, ⟨by (with_reducible repeat (first | apply Kd.R_alloc | apply Kd.R_drewN | apply Kd.R_drew)); exact Kd.R_mono (Kd.R_far (p := ⟨gb158, 2, none⟩) (Kd.R_far (p := ⟨gb158, 1, none⟩) (Kd.R_far (p := ⟨gb158, 0, none⟩) (Kd.R_types HO164.out BK158.out (by decide)) (fun _ hk => hk.2) (.int .u64 t160)) (fun _ hk => hk.2) (.int .u32 t161)) (fun _ hk => hk.2) (.slice Ao12 t162.length co12)) (fun _ hk => trivial)⟩, ⟨by (with_reducible repeat (first | refine blk_drewN ?_ _ | refine blk_drew ?_ | refine blk_alloc ?_ _)); refine blk_put (cs := #[.int .u64 t160, .int .u32 t161, .slice A0_2 l0_2.length c0_2]) ?_ 2 _ rfl; (with_reducible repeat (first | refine blk_drewN ?_ _ | refine blk_drew ?_ | refine blk_alloc ?_ _)); refine blk_put (cs := #[.int .u64 t160, .int .u32 a0_1, .slice A0_2 l0_2.length c0_2]) ?_ 1 _ rfl; (with_reducible repeat (first | refine blk_drewN ?_ _ | refine blk_drew ?_ | refine blk_alloc ?_ _)); refine blk_put (cs := #[.int .u64 a0_0, .int .u32 a0_1, .slice A0_2 l0_2.length c0_2]) ?_ 0 _ rfl; (with_reducible repeat (first | refine blk_drewN ?_ _ | refine blk_drew ?_ | refine blk_alloc ?_ _)); exact BK158.out⟩, ⟨by (with_reducible repeat (first | refine blk_drewN ?_ _ | refine blk_drew ?_ | refine blk_alloc ?_ _)); refine blk_far ?_ NB159_158.out _; (with_reducible repeat (first | refine blk_drewN ?_ _ | refine blk_drew ?_ | refine blk_alloc ?_ _)); refine blk_far ?_ NB159_158.out _; (with_reducible repeat (first | refine blk_drewN ?_ _ | refine blk_drew ?_ | refine blk_alloc ?_ _)); refine blk_far ?_ NB159_158.out _; (with_reducible repeat (first | refine blk_drewN ?_ _ | refine blk_drew ?_ | refine blk_alloc ?_ _)); exact BK159.out⟩, ⟨bB HB.out⟩⟩
  ·rw [if_neg c13] at H
   have c13b0 : decide (a2 < 1) = false := decide_eq_false c13
   clear c13
   (first | rw [c13b0] | (simp only [i64_w, i32_w]; rw [c13b0]) | skip)
   by_cases c14 : a2 > 4294967296
   ·rw [if_pos c14] at H
    have c14b0 : decide (4294967296 < a2) = true := decide_eq_true c14
    clear c14
    have H' := Am H
    clear H
    go_wp2
    repeat (go_quiet (fail); try go_wp2)
    go_meet
    case rel => exact ⟨_, (true), rs_, H', ⟨by first | omega | exact Nat.le_refl _⟩, ⟨by (with_reducible repeat (first | apply Kd.R_alloc | apply Kd.R_drewN | apply Kd.R_drew)); exact Kd.R_mono (Kd.R_far (p := ⟨gb158, 2, none⟩) (Kd.R_far (p := ⟨gb158, 1, none⟩) (Kd.R_far (p := ⟨gb158, 0, none⟩) (Kd.R_types HO164.out BK158.out (by decide)) (fun _ hk => hk.2) (.int .u64 t160)) (fun _ hk => hk.2) (.int .u32 t161)) (fun _ hk => hk.2) (.slice Ao12 t162.length co12)) (fun _ hk => trivial)⟩, ⟨by (with_reducible repeat (first | refine blk_drewN ?_ _ | refine blk_drew ?_ | refine blk_alloc ?_ _)); refine blk_put (cs := #[.int .u64 t160, .int .u32 t161, .slice A0_2 l0_2.length c0_2]) ?_ 2 _ rfl; (with_reducible repeat (first | refine blk_drewN ?_ _ | refine blk_drew ?_ | refine blk_alloc ?_ _)); refine blk_put (cs := #[.int .u64 t160, .int .u32 a0_1, .slice A0_2 l0_2.length c0_2]) ?_ 1 _ rfl; (with_reducible repeat (first | refine blk_drewN ?_ _ | refine blk_drew ?_ | refine blk_alloc ?_ _)); refine blk_put (cs := #[.int .u64 a0_0, .int .u32 a0_1, .slice A0_2 l0_2.length c0_2]) ?_ 0 _ rfl; (with_reducible repeat (first | refine blk_drewN ?_ _ | refine blk_drew ?_ | refine blk_alloc ?_ _)); exact BK158.out⟩, ⟨by (with_reducible repeat (first | refine blk_drewN ?_ _ | refine blk_drew ?_ | refine blk_alloc ?_ _)); refine blk_far ?_ NB159_158.out _; (with_reducible repeat (first | refine blk_drewN ?_ _ | refine blk_drew ?_ | refine blk_alloc ?_ _)); refine blk_far ?_ NB159_158.out _; (with_reducible repeat (first | refine blk_drewN ?_ _ | refine blk_drew ?_ | refine blk_alloc ?_ _)); refine blk_far ?_ NB159_158.out _; (with_reducible repeat (first | refine blk_drewN ?_ _ | refine blk_drew ?_ | refine blk_alloc ?_ _)); exact BK159.out⟩, ⟨bB HB.out⟩⟩
   ·rw [if_neg c14] at H
    have c14b0 : decide (4294967296 < a2) = false := decide_eq_false c14
    clear c14
    have H' := Am H
    clear H
    go_wp2
    repeat (go_quiet (fail); try go_wp2)
    go_meet
    case rel => exact ⟨_, (decide (a1 ≥ a2)), rs_, H', ⟨by first | omega | exact Nat.le_refl _⟩, ⟨by (with_reducible repeat (first | apply Kd.R_alloc | apply Kd.R_drewN | apply Kd.R_drew)); exact Kd.R_mono (Kd.R_far (p := ⟨gb158, 2, none⟩) (Kd.R_far (p := ⟨gb158, 1, none⟩) (Kd.R_far (p := ⟨gb158, 0, none⟩) (Kd.R_types HO164.out BK158.out (by decide)) (fun _ hk => hk.2) (.int .u64 t160)) (fun _ hk => hk.2) (.int .u32 t161)) (fun _ hk => hk.2) (.slice Ao12 t162.length co12)) (fun _ hk => trivial)⟩, ⟨by (with_reducible repeat (first | refine blk_drewN ?_ _ | refine blk_drew ?_ | refine blk_alloc ?_ _)); refine blk_put (cs := #[.int .u64 t160, .int .u32 t161, .slice A0_2 l0_2.length c0_2]) ?_ 2 _ rfl; (with_reducible repeat (first | refine blk_drewN ?_ _ | refine blk_drew ?_ | refine blk_alloc ?_ _)); refine blk_put (cs := #[.int .u64 t160, .int .u32 a0_1, .slice A0_2 l0_2.length c0_2]) ?_ 1 _ rfl; (with_reducible repeat (first | refine blk_drewN ?_ _ | refine blk_drew ?_ | refine blk_alloc ?_ _)); refine blk_put (cs := #[.int .u64 a0_0, .int .u32 a0_1, .slice A0_2 l0_2.length c0_2]) ?_ 0 _ rfl; (with_reducible repeat (first | refine blk_drewN ?_ _ | refine blk_drew ?_ | refine blk_alloc ?_ _)); exact BK158.out⟩, ⟨by (with_reducible repeat (first | refine blk_drewN ?_ _ | refine blk_drew ?_ | refine blk_alloc ?_ _)); refine blk_far ?_ NB159_158.out _; (with_reducible repeat (first | refine blk_drewN ?_ _ | refine blk_drew ?_ | refine blk_alloc ?_ _)); refine blk_far ?_ NB159_158.out _; (with_reducible repeat (first | refine blk_drewN ?_ _ | refine blk_drew ?_ | refine blk_alloc ?_ _)); refine blk_far ?_ NB159_158.out _; (with_reducible repeat (first | refine blk_drewN ?_ _ | refine blk_drew ?_ | refine blk_alloc ?_ _)); exact BK159.out⟩, ⟨bB HB.out⟩⟩
 case rest =>
  clear HC5
  try clear c1
  try clear p2
  try clear c6
  try clear c8
  try clear c13
  try clear c13b0
  try clear c14
  try clear c14b0
  try clear hcz11_0
  try clear hcz11_1
  try clear hcz11_2
  try clear hcz9_0
  try clear hcz9_1
  try clear hcz9_2
  try clear hfz11_0
  try clear hfz11_1
  try clear hfz11_2
  try clear hfz9_0
  try clear hfz9_1
  try clear hfz9_2
  obtain ⟨kq, x26_4, rfl, HA, HJ4, HO_159002, BK158, BK159, HB⟩ := hcut
  cases kq with
  | zero => exact absurd HA.out (by simp [coder_PutNum.j0])
  | succ kj4 =>
   have H := HA.out
   clear HA
   simp only [coder_PutNum.j0] at H
   by_cases c15 : x26_4 = true
   ·subst c15
    have H1 : (some (t160, t161, t162, 1)) = some (r1, r2, r3, r4) := by rw [if_pos rfl] at H; exact H
    clear H
    have H := H1
    clear H1
    simp only [Option.some.injEq, Prod.mk.injEq] at H
    obtain ⟨rfl, rfl, rfl, rfl⟩ := H
    have hnb16 := NB158_159.out
    have hnc16 := NB159_158.out
    have hcz17_0 : wc.cell? ⟨gb158, 0, none⟩ = some (.int .u64 t160) := (blk_cell BK158.out 0).trans rfl
    have hcz17_1 : wc.cell? ⟨gb158, 1, none⟩ = some (.int .u32 t161) := (blk_cell BK158.out 1).trans rfl
    have hcz17_2 : wc.cell? ⟨gb158, 2, none⟩ = some (.slice Ao12 t162.length co12) := (blk_cell BK158.out 2).trans rfl
    have hfz17_0 := blk_frozen BK158.out 0
    have hfz17_1 := blk_frozen BK158.out 1
    have hfz17_2 := blk_frozen BK158.out 2
    have hcz18_0 : wc.cell? ⟨gb159, 0, none⟩ = some (.int .u64 0) := (blk_cell BK159.out 0).trans rfl
    have hcz18_1 : wc.cell? ⟨gb159, 1, none⟩ = some (.int .u32 0) := (blk_cell BK159.out 1).trans rfl
    have hcz18_2 : wc.cell? ⟨gb159, 2, none⟩ = some (.slice none 0 0) := (blk_cell BK159.out 2).trans rfl
    have hfz18_0 := blk_frozen BK159.out 0
    have hfz18_1 := blk_frozen BK159.out 1
    have hfz18_2 := blk_frozen BK159.out 2
    go_wp2
    repeat (go_quiet (fail); try go_wp2)
    refine bodyPost_ret (results_ct rfl _ _ gb159 52 #[.int .u64 t160, .int .u32 t161, .slice Ao12 t162.length co12] (0, 0) _ rfl (by (with_reducible repeat (first | refine blk_drewN ?_ _ | refine blk_drew ?_ | refine blk_alloc ?_ _)); refine blk_put (cs := #[.int .u64 t160, .int .u32 t161, .slice none 0 0]) ?_ 2 _ rfl; (with_reducible repeat (first | refine blk_drewN ?_ _ | refine blk_drew ?_ | refine blk_alloc ?_ _)); refine blk_put (cs := #[.int .u64 t160, .int .u32 0, .slice none 0 0]) ?_ 1 _ rfl; (with_reducible repeat (first | refine blk_drewN ?_ _ | refine blk_drew ?_ | refine blk_alloc ?_ _)); refine blk_put (cs := #[.int .u64 0, .int .u32 0, .slice none 0 0]) ?_ 0 _ rfl; (with_reducible repeat (first | refine blk_drewN ?_ _ | refine blk_drew ?_ | refine blk_alloc ?_ _)); exact BK159.out) Try.underlying52 rfl (by kernel_rfl)) rfl ?_
    exact ⟨_, by first | rfl | (simp [errW_none, errW_some] <;> rfl) | (simp [*, errW_none, errW_some] <;> rfl), by (with_reducible repeat (first | apply Kd.R_alloc | apply Kd.R_drewN | apply Kd.R_drew)); exact Kd.R_mono (Kd.R_far (p := ⟨gb159, 2, none⟩) (Kd.R_far (p := ⟨gb159, 1, none⟩) (Kd.R_far (p := ⟨gb159, 0, none⟩) (Kd.R_types HO_159002.out BK159.out (by decide)) (fun _ hk => hk.2) (.int .u64 t160)) (fun _ hk => hk.2) (.int .u32 t161)) (fun _ hk => hk.2) (.slice Ao12 t162.length co12)) (fun _ hk => trivial), bB HB.out⟩
   ·replace c15 := Bool.eq_false_iff.mpr c15
    subst c15
    have H1 : ((coder_halves.f a2).bind fun bt165 => (if bt165.2 = 0 then (none) else ((coder_Put.f kj4 t160 t161 t162 (wrap64 (Int.tdiv (wrap64 (a1)) bt165.2)) (wrap64 ((wrap64 (Int.tdiv (wrap64 (a1)) bt165.2)) + 1)) bt165.1).bind fun bt167 => (if bt167.2.2.2 = 0 then (coder_PutNum.j1 kj4 bt165.2 (Int.tmod (wrap64 (a1)) bt165.2) bt167.2.2.2 (decide (bt165.2 > 1)) t160 t161 t162 bt167.1 bt167.2.1 bt167.2.2.1) else (coder_PutNum.j1 kj4 bt165.2 (Int.tmod (wrap64 (a1)) bt165.2) bt167.2.2.2 false t160 t161 t162 bt167.1 bt167.2.1 bt167.2.2.1))))) = some (r1, r2, r3, r4) := by rw [if_neg (show ¬ (false = true) by decide)] at H; exact H
    clear H
    have H := H1
    clear H1
    replace H := Option.bind_eq_some_iff.mp H
    obtain ⟨⟨t165, t166⟩, A190, H⟩ := H
    replace H : (if t166 = 0 then (none) else ((coder_Put.f kj4 t160 t161 t162 (wrap64 (Int.tdiv (wrap64 (a1)) t166)) (wrap64 ((wrap64 (Int.tdiv (wrap64 (a1)) t166)) + 1)) t165).bind fun bt167 => (if bt167.2.2.2 = 0 then (coder_PutNum.j1 kj4 t166 (Int.tmod (wrap64 (a1)) t166) bt167.2.2.2 (decide (t166 > 1)) t160 t161 t162 bt167.1 bt167.2.1 bt167.2.2.1) else (coder_PutNum.j1 kj4 t166 (Int.tmod (wrap64 (a1)) t166) bt167.2.2.2 false t160 t161 t162 bt167.1 bt167.2.1 bt167.2.2.1)))) = some (r1, r2, r3, r4) := H
    have A19 := Am A190
    clear A190
    by_cases c20 : t166 = 0
    ·rw [if_pos c20] at H
     exact absurd H (by simp)
    ·rw [if_neg c20] at H
     have c20b0 : (t166 == 0) = false := beq_eq_false_iff_ne.mpr c20
     have c20b1 : (t166 != 0) = true := bne_iff_ne.mpr c20
     replace H := Option.bind_eq_some_iff.mp H
     obtain ⟨⟨t167, t168, t169, t172⟩, A210, H⟩ := H
     replace H : (if t172 = 0 then (coder_PutNum.j1 kj4 t166 (Int.tmod (wrap64 (a1)) t166) t172 (decide (t166 > 1)) t160 t161 t162 t167 t168 t169) else (coder_PutNum.j1 kj4 t166 (Int.tmod (wrap64 (a1)) t166) t172 false t160 t161 t162 t167 t168 t169)) = some (r1, r2, r3, r4) := H
     have A21 := Am A210
     clear A210
     have HC22 := Am H
     clear H
     go_upto_region 7 with (first | (go_at_call 118; (with_reducible refine (coder_halves.calls a2 t165 t166 _ A19.out).mono ?_); rintro e w23 ⟨rfl, hb⟩; have n0_ := Am (Kd.R_below (kR HO_159002.out) hb); have n1_ := Am (blk_below (g := gb158) (o := .cells #[.int .u64 t160, .int .u32 t161, .slice Ao12 t162.length co12] 52 (0, 0)) (bK BK158.out) hb); have n2_ := Am (blk_below (g := gb159) (o := .cells #[.int .u64 0, .int .u32 0, .slice none 0 0] 52 (0, 0)) (bK BK159.out) hb); have n3_ := Am (below_step (bB HB.out) hb); clear HO_159002; clear BK158; clear BK159; clear HB; have HO_159002 := n0_; have BK158 := n1_; have BK159 := n2_; have HB := n3_; clear n0_ n1_ n2_ n3_; (try clear hb); (try clear hb2); (try clear hk); (try clear hi); have hnb24 := NB158_159.out; have hnc24 := NB159_158.out; have hcz25_0 : w23.cell? ⟨gb158, 0, none⟩ = some (.int .u64 t160) := (blk_cell BK158.out 0).trans rfl; have hcz25_1 : w23.cell? ⟨gb158, 1, none⟩ = some (.int .u32 t161) := (blk_cell BK158.out 1).trans rfl; have hcz25_2 : w23.cell? ⟨gb158, 2, none⟩ = some (.slice Ao12 t162.length co12) := (blk_cell BK158.out 2).trans rfl; have hfz25_0 := blk_frozen BK158.out 0; have hfz25_1 := blk_frozen BK158.out 1; have hfz25_2 := blk_frozen BK158.out 2) | (go_at_call 60; (with_reducible refine (coder_Put.calls kj4 t160 t161 _ _ t162 (wrap64 (Int.tdiv (wrap64 (a1)) t166)) (wrap64 ((wrap64 (Int.tdiv (wrap64 (a1)) t166)) + 1)) t165 t167 t168 t169 t172 _ ?side1 ?side2 A21.out).mono ?_); (case side1 => repeat (first | exact (Kd.R_reads' HO_159002.out).2.2 | (with_reducible refine Kd.C_alloc ?_ _) | (with_reducible refine Kd.C_drewN ?_ _) | (with_reducible refine Kd.C_drew ?_))); (case side2 => exact (Kd.R_reads' HO_159002.out).2.1); rintro e w26 ⟨v170, rfl, ho0, hb⟩; have n0_ := Am (Kd.R_elder' (kR HO_159002.out) (Kd.R_base ho0) hb); have n1_ := Am (Kd.R_lower (Kd.R_new' ho0 (Kd.R_lt (kR HO_159002.out))) (below_size (bB HB.out))); have n2_ := Am (blk_below (g := gb158) (o := .cells #[.int .u64 t160, .int .u32 t161, .slice Ao12 t162.length co12] 52 (0, 0)) (bK BK158.out) hb); have n3_ := Am (blk_below (g := gb159) (o := .cells #[.int .u64 0, .int .u32 0, .slice none 0 0] 52 (0, 0)) (bK BK159.out) hb); have n4_ := Am (below_step (bB HB.out) hb); clear HO_159002; clear BK158; clear BK159; clear HB; have HO_159002 := n0_; have HO171 := n1_; have BK158 := n2_; have BK159 := n3_; have HB := n4_; clear n0_ n1_ n2_ n3_ n4_; (try clear hb); (try clear hb2); (try clear hk); (try clear hi); (try clear ho0)) | ((with_reducible refine gate_dst (N := 12) rfl ?_); refine box_event ?hg (N := 12) ?hd (cs := #[.int .u64 0, .int .u32 0, .slice none 0 0]) (t := 52) ?hr ?_; (case hd => rfl); (case hg => rfl); (case hr => first | (go_simp; done) | (go_simp; rfl)); intro gb173 hg w27 hbox hb; have n0_ := Am (Kd.R_below (kR HO_159002.out) hb); have n1_ := Am (Kd.R_below (kR HO171.out) hb); have n2_ := Am (blk_below (g := gb158) (o := .cells #[.int .u64 t160, .int .u32 t161, .slice Ao12 t162.length co12] 52 (0, 0)) (bK BK158.out) hb); have n3_ := Am (blk_below (g := gb159) (o := .cells #[.int .u64 0, .int .u32 0, .slice none 0 0] 52 (0, 0)) (bK BK159.out) hb); have n4_ := Am (below_step (bB HB.out) hb); have n5_ := Am (hbox); have n6_ := Am ((by rw [hg]; exact (below_size (bB HB.out)) : w.heap.size ≤ gb173)); have n7_ := Am ((by rw [hg]; exact (below_size (bB HB.out)) : w.heap.size ≤ gb173)); have n8_ := Am ((by rw [hg]; exact Nat.ne_of_lt (blk_lt (g := gb158) (o := .cells #[.int .u64 t160, .int .u32 t161, .slice Ao12 t162.length co12] 52 (0, 0)) (bK BK158.out)) : gb158 ≠ gb173)); have n9_ := Am ((by rw [hg]; exact Nat.ne_of_gt (blk_lt (g := gb158) (o := .cells #[.int .u64 t160, .int .u32 t161, .slice Ao12 t162.length co12] 52 (0, 0)) (bK BK158.out)) : gb173 ≠ gb158)); have n10_ := Am ((by rw [hg]; exact Nat.ne_of_lt (blk_lt (g := gb159) (o := .cells #[.int .u64 0, .int .u32 0, .slice none 0 0] 52 (0, 0)) (bK BK159.out)) : gb159 ≠ gb173)); have n11_ := Am ((by rw [hg]; exact Nat.ne_of_gt (blk_lt (g := gb159) (o := .cells #[.int .u64 0, .int .u32 0, .slice none 0 0] 52 (0, 0)) (bK BK159.out)) : gb173 ≠ gb159)); clear HO_159002; clear HO171; clear BK158; clear BK159; clear HB; have HO_159002 := n0_; have HO171 := n1_; have BK158 := n2_; have BK159 := n3_; have HB := n4_; have BK173 := n5_; have GW173 := n6_; have GE173 := n7_; have NB158_173 := n8_; have NB173_158 := n9_; have NB159_173 := n10_; have NB173_159 := n11_; clear n0_ n1_ n2_ n3_ n4_ n5_ n6_ n7_ n8_ n9_ n10_ n11_; clear hb hbox hg; have hnb28 := NB173_158.out; have hnc28 := NB158_173.out; have hnb29 := NB173_159.out; have hnc29 := NB159_173.out; have hcz30_0 : w27.cell? ⟨gb173, 0, none⟩ = some (.int .u64 0) := (blk_cell BK173.out 0).trans rfl; have hcz30_1 : w27.cell? ⟨gb173, 1, none⟩ = some (.int .u32 0) := (blk_cell BK173.out 1).trans rfl; have hcz30_2 : w27.cell? ⟨gb173, 2, none⟩ = some (.slice none 0 0) := (blk_cell BK173.out 2).trans rfl; have hfz30_0 := blk_frozen BK173.out 0; have hfz30_1 := blk_frozen BK173.out 1; have hfz30_2 := blk_frozen BK173.out 2; obtain ⟨Ao31, co31, eo31⟩ := Kd.R_slice HO171.out; subst eo31))
     repeat (go_quiet (first | (go_at_call 118; (with_reducible refine (coder_halves.calls a2 t165 t166 _ A19.out).mono ?_); rintro e w23 ⟨rfl, hb⟩; have n0_ := Am (Kd.R_below (kR HO_159002.out) hb); have n1_ := Am (blk_below (g := gb158) (o := .cells #[.int .u64 t160, .int .u32 t161, .slice Ao12 t162.length co12] 52 (0, 0)) (bK BK158.out) hb); have n2_ := Am (blk_below (g := gb159) (o := .cells #[.int .u64 0, .int .u32 0, .slice none 0 0] 52 (0, 0)) (bK BK159.out) hb); have n3_ := Am (below_step (bB HB.out) hb); clear HO_159002; clear BK158; clear BK159; clear HB; have HO_159002 := n0_; have BK158 := n1_; have BK159 := n2_; have HB := n3_; clear n0_ n1_ n2_ n3_; (try clear hb); (try clear hb2); (try clear hk); (try clear hi); have hnb24 := NB158_159.out; have hnc24 := NB159_158.out; have hcz25_0 : w23.cell? ⟨gb158, 0, none⟩ = some (.int .u64 t160) := (blk_cell BK158.out 0).trans rfl; have hcz25_1 : w23.cell? ⟨gb158, 1, none⟩ = some (.int .u32 t161) := (blk_cell BK158.out 1).trans rfl; have hcz25_2 : w23.cell? ⟨gb158, 2, none⟩ = some (.slice Ao12 t162.length co12) := (blk_cell BK158.out 2).trans rfl; have hfz25_0 := blk_frozen BK158.out 0; have hfz25_1 := blk_frozen BK158.out 1; have hfz25_2 := blk_frozen BK158.out 2) | (go_at_call 60; (with_reducible refine (coder_Put.calls kj4 t160 t161 _ _ t162 (wrap64 (Int.tdiv (wrap64 (a1)) t166)) (wrap64 ((wrap64 (Int.tdiv (wrap64 (a1)) t166)) + 1)) t165 t167 t168 t169 t172 _ ?side1 ?side2 A21.out).mono ?_); (case side1 => repeat (first | exact (Kd.R_reads' HO_159002.out).2.2 | (with_reducible refine Kd.C_alloc ?_ _) | (with_reducible refine Kd.C_drewN ?_ _) | (with_reducible refine Kd.C_drew ?_))); (case side2 => exact (Kd.R_reads' HO_159002.out).2.1); rintro e w26 ⟨v170, rfl, ho0, hb⟩; have n0_ := Am (Kd.R_elder' (kR HO_159002.out) (Kd.R_base ho0) hb); have n1_ := Am (Kd.R_lower (Kd.R_new' ho0 (Kd.R_lt (kR HO_159002.out))) (below_size (bB HB.out))); have n2_ := Am (blk_below (g := gb158) (o := .cells #[.int .u64 t160, .int .u32 t161, .slice Ao12 t162.length co12] 52 (0, 0)) (bK BK158.out) hb); have n3_ := Am (blk_below (g := gb159) (o := .cells #[.int .u64 0, .int .u32 0, .slice none 0 0] 52 (0, 0)) (bK BK159.out) hb); have n4_ := Am (below_step (bB HB.out) hb); clear HO_159002; clear BK158; clear BK159; clear HB; have HO_159002 := n0_; have HO171 := n1_; have BK158 := n2_; have BK159 := n3_; have HB := n4_; clear n0_ n1_ n2_ n3_ n4_; (try clear hb); (try clear hb2); (try clear hk); (try clear hi); (try clear ho0)) | ((with_reducible refine gate_dst (N := 12) rfl ?_); refine box_event ?hg (N := 12) ?hd (cs := #[.int .u64 0, .int .u32 0, .slice none 0 0]) (t := 52) ?hr ?_; (case hd => rfl); (case hg => rfl); (case hr => first | (go_simp; done) | (go_simp; rfl)); intro gb173 hg w27 hbox hb; have n0_ := Am (Kd.R_below (kR HO_159002.out) hb); have n1_ := Am (Kd.R_below (kR HO171.out) hb); have n2_ := Am (blk_below (g := gb158) (o := .cells #[.int .u64 t160, .int .u32 t161, .slice Ao12 t162.length co12] 52 (0, 0)) (bK BK158.out) hb); have n3_ := Am (blk_below (g := gb159) (o := .cells #[.int .u64 0, .int .u32 0, .slice none 0 0] 52 (0, 0)) (bK BK159.out) hb); have n4_ := Am (below_step (bB HB.out) hb); have n5_ := Am (hbox); have n6_ := Am ((by rw [hg]; exact (below_size (bB HB.out)) : w.heap.size ≤ gb173)); have n7_ := Am ((by rw [hg]; exact (below_size (bB HB.out)) : w.heap.size ≤ gb173)); have n8_ := Am ((by rw [hg]; exact Nat.ne_of_lt (blk_lt (g := gb158) (o := .cells #[.int .u64 t160, .int .u32 t161, .slice Ao12 t162.length co12] 52 (0, 0)) (bK BK158.out)) : gb158 ≠ gb173)); have n9_ := Am ((by rw [hg]; exact Nat.ne_of_gt (blk_lt (g := gb158) (o := .cells #[.int .u64 t160, .int .u32 t161, .slice Ao12 t162.length co12] 52 (0, 0)) (bK BK158.out)) : gb173 ≠ gb158)); have n10_ := Am ((by rw [hg]; exact Nat.ne_of_lt (blk_lt (g := gb159) (o := .cells #[.int .u64 0, .int .u32 0, .slice none 0 0] 52 (0, 0)) (bK BK159.out)) : gb159 ≠ gb173)); have n11_ := Am ((by rw [hg]; exact Nat.ne_of_gt (blk_lt (g := gb159) (o := .cells #[.int .u64 0, .int .u32 0, .slice none 0 0] 52 (0, 0)) (bK BK159.out)) : gb173 ≠ gb159)); clear HO_159002; clear HO171; clear BK158; clear BK159; clear HB; have HO_159002 := n0_; have HO171 := n1_; have BK158 := n2_; have BK159 := n3_; have HB := n4_; have BK173 := n5_; have GW173 := n6_; have GE173 := n7_; have NB158_173 := n8_; have NB173_158 := n9_; have NB159_173 := n10_; have NB173_159 := n11_; clear n0_ n1_ n2_ n3_ n4_ n5_ n6_ n7_ n8_ n9_ n10_ n11_; clear hb hbox hg; have hnb28 := NB173_158.out; have hnc28 := NB158_173.out; have hnb29 := NB173_159.out; have hnc29 := NB159_173.out; have hcz30_0 : w27.cell? ⟨gb173, 0, none⟩ = some (.int .u64 0) := (blk_cell BK173.out 0).trans rfl; have hcz30_1 : w27.cell? ⟨gb173, 1, none⟩ = some (.int .u32 0) := (blk_cell BK173.out 1).trans rfl; have hcz30_2 : w27.cell? ⟨gb173, 2, none⟩ = some (.slice none 0 0) := (blk_cell BK173.out 2).trans rfl; have hfz30_0 := blk_frozen BK173.out 0; have hfz30_1 := blk_frozen BK173.out 1; have hfz30_2 := blk_frozen BK173.out 2; obtain ⟨Ao31, co31, eo31⟩ := Kd.R_slice HO171.out; subst eo31)); go_upto_region 7 with (first | (go_at_call 118; (with_reducible refine (coder_halves.calls a2 t165 t166 _ A19.out).mono ?_); rintro e w23 ⟨rfl, hb⟩; have n0_ := Am (Kd.R_below (kR HO_159002.out) hb); have n1_ := Am (blk_below (g := gb158) (o := .cells #[.int .u64 t160, .int .u32 t161, .slice Ao12 t162.length co12] 52 (0, 0)) (bK BK158.out) hb); have n2_ := Am (blk_below (g := gb159) (o := .cells #[.int .u64 0, .int .u32 0, .slice none 0 0] 52 (0, 0)) (bK BK159.out) hb); have n3_ := Am (below_step (bB HB.out) hb); clear HO_159002; clear BK158; clear BK159; clear HB; have HO_159002 := n0_; have BK158 := n1_; have BK159 := n2_; have HB := n3_; clear n0_ n1_ n2_ n3_; (try clear hb); (try clear hb2); (try clear hk); (try clear hi); have hnb24 := NB158_159.out; have hnc24 := NB159_158.out; have hcz25_0 : w23.cell? ⟨gb158, 0, none⟩ = some (.int .u64 t160) := (blk_cell BK158.out 0).trans rfl; have hcz25_1 : w23.cell? ⟨gb158, 1, none⟩ = some (.int .u32 t161) := (blk_cell BK158.out 1).trans rfl; have hcz25_2 : w23.cell? ⟨gb158, 2, none⟩ = some (.slice Ao12 t162.length co12) := (blk_cell BK158.out 2).trans rfl; have hfz25_0 := blk_frozen BK158.out 0; have hfz25_1 := blk_frozen BK158.out 1; have hfz25_2 := blk_frozen BK158.out 2) | (go_at_call 60; (with_reducible refine (coder_Put.calls kj4 t160 t161 _ _ t162 (wrap64 (Int.tdiv (wrap64 (a1)) t166)) (wrap64 ((wrap64 (Int.tdiv (wrap64 (a1)) t166)) + 1)) t165 t167 t168 t169 t172 _ ?side1 ?side2 A21.out).mono ?_); (case side1 => repeat (first | exact (Kd.R_reads' HO_159002.out).2.2 | (with_reducible refine Kd.C_alloc ?_ _) | (with_reducible refine Kd.C_drewN ?_ _) | (with_reducible refine Kd.C_drew ?_))); (case side2 => exact (Kd.R_reads' HO_159002.out).2.1); rintro e w26 ⟨v170, rfl, ho0, hb⟩; have n0_ := Am (Kd.R_elder' (kR HO_159002.out) (Kd.R_base ho0) hb); have n1_ := Am (Kd.R_lower (Kd.R_new' ho0 (Kd.R_lt (kR HO_159002.out))) (below_size (bB HB.out))); have n2_ := Am (blk_below (g := gb158) (o := .cells #[.int .u64 t160, .int .u32 t161, .slice Ao12 t162.length co12] 52 (0, 0)) (bK BK158.out) hb); have n3_ := Am (blk_below (g := gb159) (o := .cells #[.int .u64 0, .int .u32 0, .slice none 0 0] 52 (0, 0)) (bK BK159.out) hb); have n4_ := Am (below_step (bB HB.out) hb); clear HO_159002; clear BK158; clear BK159; clear HB; have HO_159002 := n0_; have HO171 := n1_; have BK158 := n2_; have BK159 := n3_; have HB := n4_; clear n0_ n1_ n2_ n3_ n4_; (try clear hb); (try clear hb2); (try clear hk); (try clear hi); (try clear ho0)) | ((with_reducible refine gate_dst (N := 12) rfl ?_); refine box_event ?hg (N := 12) ?hd (cs := #[.int .u64 0, .int .u32 0, .slice none 0 0]) (t := 52) ?hr ?_; (case hd => rfl); (case hg => rfl); (case hr => first | (go_simp; done) | (go_simp; rfl)); intro gb173 hg w27 hbox hb; have n0_ := Am (Kd.R_below (kR HO_159002.out) hb); have n1_ := Am (Kd.R_below (kR HO171.out) hb); have n2_ := Am (blk_below (g := gb158) (o := .cells #[.int .u64 t160, .int .u32 t161, .slice Ao12 t162.length co12] 52 (0, 0)) (bK BK158.out) hb); have n3_ := Am (blk_below (g := gb159) (o := .cells #[.int .u64 0, .int .u32 0, .slice none 0 0] 52 (0, 0)) (bK BK159.out) hb); have n4_ := Am (below_step (bB HB.out) hb); have n5_ := Am (hbox); have n6_ := Am ((by rw [hg]; exact (below_size (bB HB.out)) : w.heap.size ≤ gb173)); have n7_ := Am ((by rw [hg]; exact (below_size (bB HB.out)) : w.heap.size ≤ gb173)); have n8_ := Am ((by rw [hg]; exact Nat.ne_of_lt (blk_lt (g := gb158) (o := .cells #[.int .u64 t160, .int .u32 t161, .slice Ao12 t162.length co12] 52 (0, 0)) (bK BK158.out)) : gb158 ≠ gb173)); have n9_ := Am ((by rw [hg]; exact Nat.ne_of_gt (blk_lt (g := gb158) (o := .cells #[.int .u64 t160, .int .u32 t161, .slice Ao12 t162.length co12] 52 (0, 0)) (bK BK158.out)) : gb173 ≠ gb158)); have n10_ := Am ((by rw [hg]; exact Nat.ne_of_lt (blk_lt (g := gb159) (o := .cells #[.int .u64 0, .int .u32 0, .slice none 0 0] 52 (0, 0)) (bK BK159.out)) : gb159 ≠ gb173)); have n11_ := Am ((by rw [hg]; exact Nat.ne_of_gt (blk_lt (g := gb159) (o := .cells #[.int .u64 0, .int .u32 0, .slice none 0 0] 52 (0, 0)) (bK BK159.out)) : gb173 ≠ gb159)); clear HO_159002; clear HO171; clear BK158; clear BK159; clear HB; have HO_159002 := n0_; have HO171 := n1_; have BK158 := n2_; have BK159 := n3_; have HB := n4_; have BK173 := n5_; have GW173 := n6_; have GE173 := n7_; have NB158_173 := n8_; have NB173_158 := n9_; have NB159_173 := n10_; have NB173_159 := n11_; clear n0_ n1_ n2_ n3_ n4_ n5_ n6_ n7_ n8_ n9_ n10_ n11_; clear hb hbox hg; have hnb28 := NB173_158.out; have hnc28 := NB158_173.out; have hnb29 := NB173_159.out; have hnc29 := NB159_173.out; have hcz30_0 : w27.cell? ⟨gb173, 0, none⟩ = some (.int .u64 0) := (blk_cell BK173.out 0).trans rfl; have hcz30_1 : w27.cell? ⟨gb173, 1, none⟩ = some (.int .u32 0) := (blk_cell BK173.out 1).trans rfl; have hcz30_2 : w27.cell? ⟨gb173, 2, none⟩ = some (.slice none 0 0) := (blk_cell BK173.out 2).trans rfl; have hfz30_0 := blk_frozen BK173.out 0; have hfz30_1 := blk_frozen BK173.out 1; have hfz30_2 := blk_frozen BK173.out 2; obtain ⟨Ao31, co31, eo31⟩ := Kd.R_slice HO171.out; subst eo31)))
     (try simp only [Act.put, List.setIfInBounds_toArray, List.set_cons_zero, List.set_cons_succ])
     go_cut [55] (fun v55 wc => ∃ (kq : Nat) (x55_21 : Bool), v55 = .bool x55_21 ∧ Aside0 (coder_PutNum.j1 kq t166 (Int.tmod (wrap64 (a1)) t166) t172 x55_21 t160 t161 t162 t167 t168 t169 = some (r1, r2, r3, r4)) ∧ Aside0 (kq ≤ kj4) ∧ Aside0 (Kd.R (Kd.int .u8) 5 wc w.heap.size (fun k_ => some k_ ≠ ((.slice Ao31 t169.length co31) : Value).ownBlock) (.slice Ao12 t162.length co12) t162) ∧ Aside0 (Kd.R (Kd.int .u8) 5 wc w.heap.size (fun k_ => some k_ ≠ ((.slice Ao12 t162.length co12) : Value).ownBlock) (.slice Ao31 t169.length co31) t169) ∧ Aside0 (wc.heap[gb158]? = some (.cells #[.int .u64 t160, .int .u32 t161, (.slice Ao12 t162.length co12)] 52 (0, 0))) ∧ Aside0 (wc.heap[gb159]? = some (.cells #[.int .u64 0, .int .u32 0, (.slice none 0 0)] 52 (0, 0))) ∧ Aside0 (wc.heap[gb173]? = some (.cells #[.int .u64 t167, .int .u32 t168, (.slice Ao31 t169.length co31)] 52 (0, 0))) ∧ Aside0 (Below w.heap.size w wc))
     case first =>
      have H := HC22.out
      clear HC22
      by_cases c32 : t172 = 0
      ·rw [if_pos c32] at H
       have c32b0 : (t172 == 0) = true := beq_iff_eq.mpr c32
       have c32b1 : (t172 != 0) = false := bne_eq_false_iff_eq.mpr c32
       clear c32
       (first | rw [c32b0] | (simp only [i64_w, i32_w]; rw [c32b0]) | skip)
       have H' := Am H
       clear H
       go_wp2
       repeat (go_quiet (fail); try go_wp2)
       go_meet
       case rel => exact ⟨_, (decide (t166 > 1)), rs_, H', ⟨by have := HJ4.out; first | omega | exact Nat.le_refl _⟩, ⟨by (with_reducible repeat (first | apply Kd.R_alloc | apply Kd.R_drewN | apply Kd.R_drew)); exact Kd.R_mono (Kd.R_far (p := ⟨gb173, 2, none⟩) (Kd.R_far (p := ⟨gb173, 1, none⟩) (Kd.R_far (p := ⟨gb173, 0, none⟩) (Kd.R_types HO_159002.out BK173.out (by decide)) (fun _ hk => hk.2) (.int .u64 t167)) (fun _ hk => hk.2) (.int .u32 t168)) (fun _ hk => hk.2) (.slice Ao31 t169.length co31)) (fun _ hk => hk.1.2)⟩, ⟨by (with_reducible repeat (first | apply Kd.R_alloc | apply Kd.R_drewN | apply Kd.R_drew)); exact Kd.R_mono (Kd.R_far (p := ⟨gb173, 2, none⟩) (Kd.R_far (p := ⟨gb173, 1, none⟩) (Kd.R_far (p := ⟨gb173, 0, none⟩) (Kd.R_types HO171.out BK173.out (by decide)) (fun _ hk => hk.2) (.int .u64 t167)) (fun _ hk => hk.2) (.int .u32 t168)) (fun _ hk => hk.2) (.slice Ao31 t169.length co31)) (fun _ hk => hk.1.2)⟩, ⟨by (with_reducible repeat (first | refine blk_drewN ?_ _ | refine blk_drew ?_ | refine blk_alloc ?_ _)); refine blk_far ?_ NB158_173.out _; (with_reducible repeat (first | refine blk_drewN ?_ _ | refine blk_drew ?_ | refine blk_alloc ?_ _)); refine blk_far ?_ NB158_173.out _; (with_reducible repeat (first | refine blk_drewN ?_ _ | refine blk_drew ?_ | refine blk_alloc ?_ _)); refine blk_far ?_ NB158_173.out _; (with_reducible repeat (first | refine blk_drewN ?_ _ | refine blk_drew ?_ | refine blk_alloc ?_ _)); exact BK158.out⟩, ⟨by (with_reducible repeat (first | refine blk_drewN ?_ _ | refine blk_drew ?_ | refine blk_alloc ?_ _)); refine blk_far ?_ NB159_173.out _; (with_reducible repeat (first | refine blk_drewN ?_ _ | refine blk_drew ?_ | refine blk_alloc ?_ _)); refine blk_far ?_ NB159_173.out _; (with_reducible repeat (first | refine blk_drewN ?_ _ | refine blk_drew ?_ | refine blk_alloc ?_ _)); refine blk_far ?_ NB159_173.out _; (with_reducible repeat (first | refine blk_drewN ?_ _ | refine blk_drew ?_ | refine blk_alloc ?_ _)); exact BK159.out⟩, ⟨by (with_reducible repeat (first | refine blk_drewN ?_ _ | refine blk_drew ?_ | refine blk_alloc ?_ _)); refine blk_put (cs := #[.int .u64 t167, .int .u32 t168, .slice none 0 0]) ?_ 2 _ rfl; (with_reducible repeat (first | refine blk_drewN ?_ _ | refine blk_drew ?_ | refine blk_alloc ?_ _)); refine blk_put (cs := #[.int .u64 t167, .int .u32 0, .slice none 0 0]) ?_ 1 _ rfl; (with_reducible repeat (first | refine blk_drewN ?_ _ | refine blk_drew ?_ | refine blk_alloc ?_ _)); refine blk_put (cs := #[.int .u64 0, .int .u32 0, .slice none 0 0]) ?_ 0 _ rfl; (with_reducible repeat (first | refine blk_drewN ?_ _ | refine blk_drew ?_ | refine blk_alloc ?_ _)); exact BK173.out⟩, ⟨bB HB.out⟩⟩
      ·rw [if_neg c32] at H
       have c32b0 : (t172 == 0) = false := beq_eq_false_iff_ne.mpr c32
       have c32b1 : (t172 != 0) = true := bne_iff_ne.mpr c32
       (first | rw [c32b0] | (simp only [i64_w, i32_w]; rw [c32b0]) | skip)
       have H' := Am H
       clear H
       go_wp2
       repeat (go_quiet (fail); try go_wp2)
       go_meet
       case rel => exact ⟨_, (false), rs_, H', ⟨by have := HJ4.out; first | omega | exact Nat.le_refl _⟩, ⟨by (with_reducible repeat (first | apply Kd.R_alloc | apply Kd.R_drewN | apply Kd.R_drew)); exact Kd.R_mono (Kd.R_far (p := ⟨gb173, 2, none⟩) (Kd.R_far (p := ⟨gb173, 1, none⟩) (Kd.R_far (p := ⟨gb173, 0, none⟩) (Kd.R_types HO_159002.out BK173.out (by decide)) (fun _ hk => hk.2) (.int .u64 t167)) (fun _ hk => hk.2) (.int .u32 t168)) (fun _ hk => hk.2) (.slice Ao31 t169.length co31)) (fun _ hk => hk.1.2)⟩, ⟨by (with_reducible repeat (first | apply Kd.R_alloc | apply Kd.R_drewN | apply Kd.R_drew)); exact Kd.R_mono (Kd.R_far (p := ⟨gb173, 2, none⟩) (Kd.R_far (p := ⟨gb173, 1, none⟩) (Kd.R_far (p := ⟨gb173, 0, none⟩) (Kd.R_types HO171.out BK173.out (by decide)) (fun _ hk => hk.2) (.int .u64 t167)) (fun _ hk => hk.2) (.int .u32 t168)) (fun _ hk => hk.2) (.slice Ao31 t169.length co31)) (fun _ hk => hk.1.2)⟩, ⟨by (with_reducible repeat (first | refine blk_drewN ?_ _ | refine blk_drew ?_ | refine blk_alloc ?_ _)); refine blk_far ?_ NB158_173.out _; (with_reducible repeat (first | refine blk_drewN ?_ _ | refine blk_drew ?_ | refine blk_alloc ?_ _)); refine blk_far ?_ NB158_173.out _; (with_reducible repeat (first | refine blk_drewN ?_ _ | refine blk_drew ?_ | refine blk_alloc ?_ _)); refine blk_far ?_ NB158_173.out _; (with_reducible repeat (first | refine blk_drewN ?_ _ | refine blk_drew ?_ | refine blk_alloc ?_ _)); exact BK158.out⟩, ⟨by (with_reducible repeat (first | refine blk_drewN ?_ _ | refine blk_drew ?_ | refine blk_alloc ?_ _)); refine blk_far ?_ NB159_173.out _; (with_reducible repeat (first | refine blk_drewN ?_ _ | refine blk_drew ?_ | refine blk_alloc ?_ _)); refine blk_far ?_ NB159_173.out _; (with_reducible repeat (first | refine blk_drewN ?_ _ | refine blk_drew ?_ | refine blk_alloc ?_ _)); refine blk_far ?_ NB159_173.out _; (with_reducible repeat (first | refine blk_drewN ?_ _ | refine blk_drew ?_ | refine blk_alloc ?_ _)); exact BK159.out⟩, ⟨by (with_reducible repeat (first | refine blk_drewN ?_ _ | refine blk_drew ?_ | refine blk_alloc ?_ _)); refine blk_put (cs := #[.int .u64 t167, .int .u32 t168, .slice none 0 0]) ?_ 2 _ rfl; (with_reducible repeat (first | refine blk_drewN ?_ _ | refine blk_drew ?_ | refine blk_alloc ?_ _)); refine blk_put (cs := #[.int .u64 t167, .int .u32 0, .slice none 0 0]) ?_ 1 _ rfl; (with_reducible repeat (first | refine blk_drewN ?_ _ | refine blk_drew ?_ | refine blk_alloc ?_ _)); refine blk_put (cs := #[.int .u64 0, .int .u32 0, .slice none 0 0]) ?_ 0 _ rfl; (with_reducible repeat (first | refine blk_drewN ?_ _ | refine blk_drew ?_ | refine blk_alloc ?_ _)); exact BK173.out⟩, ⟨bB HB.out⟩⟩
     case rest =>
      clear HC22
      try clear c1
      try clear c2
      try clear p2
      try clear c3
      try clear c6
      try clear p6
      try clear c8
      try clear c13
      try clear c13b0
      try clear c14
      try clear c14b0
      try clear c15
      try clear c16
      try clear c20
      try clear c20b0
      try clear c20b1
      try clear c24
      try clear c28
      try clear c29
      try clear c32
      try clear c32b0
      try clear c32b1
      try clear hcz11_0
      try clear hcz11_1
      try clear hcz11_2
      try clear hcz17_0
      try clear hcz17_1
      try clear hcz17_2
      try clear hcz18_0
      try clear hcz18_1
      try clear hcz18_2
      try clear hcz25_0
      try clear hcz25_1
      try clear hcz25_2
      try clear hcz30_0
      try clear hcz30_1
      try clear hcz30_2
      try clear hcz9_0
      try clear hcz9_1
      try clear hcz9_2
      try clear hfz11_0
      try clear hfz11_1
      try clear hfz11_2
      try clear hfz17_0
      try clear hfz17_1
      try clear hfz17_2
      try clear hfz18_0
      try clear hfz18_1
      try clear hfz18_2
      try clear hfz25_0
      try clear hfz25_1
      try clear hfz25_2
      try clear hfz30_0
      try clear hfz30_1
      try clear hfz30_2
      try clear hfz9_0
      try clear hfz9_1
      try clear hfz9_2
      try clear p2
      obtain ⟨kq, x55_21, rfl, HA, HJ21, HO_159002, HO_174002, BK158, BK159, BK173, HB⟩ := hcut
      cases kq with
      | zero => exact absurd HA.out (by simp [coder_PutNum.j1])
      | succ kj21 =>
       have H := HA.out
       clear HA
       simp only [coder_PutNum.j1] at H
       have HC33 := Am H
       clear H
       go_upto_if 55 with (fail)
       repeat (go_quiet (fail); go_upto_if 55 with (fail))
       go_cut [13] (fun v13 wc => ∃ (kq : Nat) (x13_32 : Int) (x174000_32 : Int) (x174001_32 : Int) (x174002_32 : List Int) (u174002 : Value), v13 = .int .i64 x13_32 ∧ Aside0 (coder_PutNum.j2 kq x13_32 t160 t161 t162 x174000_32 x174001_32 x174002_32 = some (r1, r2, r3, r4)) ∧ Aside0 (kq ≤ kj21) ∧ Aside0 (Kd.R (Kd.int .u8) 5 wc w.heap.size (fun k_ => some k_ ≠ (u174002 : Value).ownBlock) (.slice Ao12 t162.length co12) t162) ∧ Aside0 (Kd.R (Kd.int .u8) 5 wc w.heap.size (fun k_ => some k_ ≠ ((.slice Ao12 t162.length co12) : Value).ownBlock) u174002 x174002_32) ∧ Aside0 (wc.heap[gb158]? = some (.cells #[.int .u64 t160, .int .u32 t161, (.slice Ao12 t162.length co12)] 52 (0, 0))) ∧ Aside0 (wc.heap[gb159]? = some (.cells #[.int .u64 0, .int .u32 0, (.slice none 0 0)] 52 (0, 0))) ∧ Aside0 (wc.heap[gb173]? = some (.cells #[.int .u64 x174000_32, .int .u32 x174001_32, u174002] 52 (0, 0))) ∧ Aside0 (Below w.heap.size w wc))
       case first =>
        have H := HC33.out
        clear HC33
        by_cases c34 : x55_21 = true
        ·subst c34
         have H1 : ((coder_Put.f kj21 t167 t168 t169 (Int.tmod (wrap64 (a1)) t166) (wrap64 ((Int.tmod (wrap64 (a1)) t166) + 1)) t166).bind fun bt174 => (coder_PutNum.j2 kj21 bt174.2.2.2 t160 t161 t162 bt174.1 bt174.2.1 bt174.2.2.1)) = some (r1, r2, r3, r4) := by rw [if_pos rfl] at H; exact H
         clear H
         have H := H1
         clear H1
         replace H := Option.bind_eq_some_iff.mp H
         obtain ⟨⟨t174, t175, t176, t179⟩, A350, H⟩ := H
         replace H : (coder_PutNum.j2 kj21 t179 t160 t161 t162 t174 t175 t176) = some (r1, r2, r3, r4) := H
         have A35 := Am A350
         clear A350
         have H' := Am H
         clear H
         have hnb36 := NB173_158.out
         have hnc36 := NB158_173.out
         have hnb37 := NB173_159.out
         have hnc37 := NB159_173.out
         have hcz38_0 : wc.cell? ⟨gb173, 0, none⟩ = some (.int .u64 t167) := (blk_cell BK173.out 0).trans rfl
         have hcz38_1 : wc.cell? ⟨gb173, 1, none⟩ = some (.int .u32 t168) := (blk_cell BK173.out 1).trans rfl
         have hcz38_2 : wc.cell? ⟨gb173, 2, none⟩ = some (.slice Ao31 t169.length co31) := (blk_cell BK173.out 2).trans rfl
         have hfz38_0 := blk_frozen BK173.out 0
         have hfz38_1 := blk_frozen BK173.out 1
         have hfz38_2 := blk_frozen BK173.out 2
         go_wp2_with (first | (go_at_call 60; (with_reducible refine (coder_Put.calls kj21 t167 t168 _ _ t169 (Int.tmod (wrap64 (a1)) t166) (wrap64 ((Int.tmod (wrap64 (a1)) t166) + 1)) t166 t174 t175 t176 t179 _ ?side1 ?side2 A35.out).mono ?_); (case side1 => repeat (first | exact (Kd.R_reads' HO_174002.out).2.2 | (with_reducible refine Kd.C_alloc ?_ _) | (with_reducible refine Kd.C_drewN ?_ _) | (with_reducible refine Kd.C_drew ?_))); (case side2 => exact (Kd.R_reads' HO_174002.out).2.1); rintro e w39 ⟨v177, rfl, ho0, hb⟩; have n0_ := Am (Kd.R_elder' (kR HO_159002.out) (Kd.R_base ho0) hb); have n1_ := Am (Kd.R_elder' (kR HO_174002.out) (Kd.R_base ho0) hb); have n2_ := Am (Kd.R_lower (Kd.R_new' (Kd.R_new' ho0 (Kd.R_lt (kR HO_159002.out))) (Kd.R_lt (kR HO_174002.out))) (below_size (bB HB.out))); have n3_ := Am (blk_below (g := gb158) (o := .cells #[.int .u64 t160, .int .u32 t161, .slice Ao12 t162.length co12] 52 (0, 0)) (bK BK158.out) hb); have n4_ := Am (blk_below (g := gb159) (o := .cells #[.int .u64 0, .int .u32 0, .slice none 0 0] 52 (0, 0)) (bK BK159.out) hb); have n5_ := Am (blk_below (g := gb173) (o := .cells #[.int .u64 t167, .int .u32 t168, .slice Ao31 t169.length co31] 52 (0, 0)) (bK BK173.out) hb); have n6_ := Am (below_step (bB HB.out) hb); clear HO_159002; clear HO_174002; clear BK158; clear BK159; clear BK173; clear HB; have HO_159002 := n0_; have HO_174002 := n1_; have HO178 := n2_; have BK158 := n3_; have BK159 := n4_; have BK173 := n5_; have HB := n6_; clear n0_ n1_ n2_ n3_ n4_ n5_ n6_; (try clear hb); (try clear hb2); (try clear hk); (try clear hi); (try clear ho0); have hcz40_0 : w39.cell? ⟨gb173, 0, none⟩ = some (.int .u64 t167) := (blk_cell BK173.out 0).trans rfl; have hcz40_1 : w39.cell? ⟨gb173, 1, none⟩ = some (.int .u32 t168) := (blk_cell BK173.out 1).trans rfl; have hcz40_2 : w39.cell? ⟨gb173, 2, none⟩ = some (.slice Ao31 t169.length co31) := (blk_cell BK173.out 2).trans rfl; have hfz40_0 := blk_frozen BK173.out 0; have hfz40_1 := blk_frozen BK173.out 1; have hfz40_2 := blk_frozen BK173.out 2; obtain ⟨Ao41, co41, eo41⟩ := Kd.R_slice HO178.out; subst eo41))
         repeat (go_quiet (first | (go_at_call 60; (with_reducible refine (coder_Put.calls kj21 t167 t168 _ _ t169 (Int.tmod (wrap64 (a1)) t166) (wrap64 ((Int.tmod (wrap64 (a1)) t166) + 1)) t166 t174 t175 t176 t179 _ ?side1 ?side2 A35.out).mono ?_); (case side1 => repeat (first | exact (Kd.R_reads' HO_174002.out).2.2 | (with_reducible refine Kd.C_alloc ?_ _) | (with_reducible refine Kd.C_drewN ?_ _) | (with_reducible refine Kd.C_drew ?_))); (case side2 => exact (Kd.R_reads' HO_174002.out).2.1); rintro e w39 ⟨v177, rfl, ho0, hb⟩; have n0_ := Am (Kd.R_elder' (kR HO_159002.out) (Kd.R_base ho0) hb); have n1_ := Am (Kd.R_elder' (kR HO_174002.out) (Kd.R_base ho0) hb); have n2_ := Am (Kd.R_lower (Kd.R_new' (Kd.R_new' ho0 (Kd.R_lt (kR HO_159002.out))) (Kd.R_lt (kR HO_174002.out))) (below_size (bB HB.out))); have n3_ := Am (blk_below (g := gb158) (o := .cells #[.int .u64 t160, .int .u32 t161, .slice Ao12 t162.length co12] 52 (0, 0)) (bK BK158.out) hb); have n4_ := Am (blk_below (g := gb159) (o := .cells #[.int .u64 0, .int .u32 0, .slice none 0 0] 52 (0, 0)) (bK BK159.out) hb); have n5_ := Am (blk_below (g := gb173) (o := .cells #[.int .u64 t167, .int .u32 t168, .slice Ao31 t169.length co31] 52 (0, 0)) (bK BK173.out) hb); have n6_ := Am (below_step (bB HB.out) hb); clear HO_159002; clear HO_174002; clear BK158; clear BK159; clear BK173; clear HB; have HO_159002 := n0_; have HO_174002 := n1_; have HO178 := n2_; have BK158 := n3_; have BK159 := n4_; have BK173 := n5_; have HB := n6_; clear n0_ n1_ n2_ n3_ n4_ n5_ n6_; (try clear hb); (try clear hb2); (try clear hk); (try clear hi); (try clear ho0); have hcz40_0 : w39.cell? ⟨gb173, 0, none⟩ = some (.int .u64 t167) := (blk_cell BK173.out 0).trans rfl; have hcz40_1 : w39.cell? ⟨gb173, 1, none⟩ = some (.int .u32 t168) := (blk_cell BK173.out 1).trans rfl; have hcz40_2 : w39.cell? ⟨gb173, 2, none⟩ = some (.slice Ao31 t169.length co31) := (blk_cell BK173.out 2).trans rfl; have hfz40_0 := blk_frozen BK173.out 0; have hfz40_1 := blk_frozen BK173.out 1; have hfz40_2 := blk_frozen BK173.out 2; obtain ⟨Ao41, co41, eo41⟩ := Kd.R_slice HO178.out; subst eo41)); try go_wp2_with (first | (go_at_call 60; (with_reducible refine (coder_Put.calls kj21 t167 t168 _ _ t169 (Int.tmod (wrap64 (a1)) t166) (wrap64 ((Int.tmod (wrap64 (a1)) t166) + 1)) t166 t174 t175 t176 t179 _ ?side1 ?side2 A35.out).mono ?_); (case side1 => repeat (first | exact (Kd.R_reads' HO_174002.out).2.2 | (with_reducible refine Kd.C_alloc ?_ _) | (with_reducible refine Kd.C_drewN ?_ _) | (with_reducible refine Kd.C_drew ?_))); (case side2 => exact (Kd.R_reads' HO_174002.out).2.1); rintro e w39 ⟨v177, rfl, ho0, hb⟩; have n0_ := Am (Kd.R_elder' (kR HO_159002.out) (Kd.R_base ho0) hb); have n1_ := Am (Kd.R_elder' (kR HO_174002.out) (Kd.R_base ho0) hb); have n2_ := Am (Kd.R_lower (Kd.R_new' (Kd.R_new' ho0 (Kd.R_lt (kR HO_159002.out))) (Kd.R_lt (kR HO_174002.out))) (below_size (bB HB.out))); have n3_ := Am (blk_below (g := gb158) (o := .cells #[.int .u64 t160, .int .u32 t161, .slice Ao12 t162.length co12] 52 (0, 0)) (bK BK158.out) hb); have n4_ := Am (blk_below (g := gb159) (o := .cells #[.int .u64 0, .int .u32 0, .slice none 0 0] 52 (0, 0)) (bK BK159.out) hb); have n5_ := Am (blk_below (g := gb173) (o := .cells #[.int .u64 t167, .int .u32 t168, .slice Ao31 t169.length co31] 52 (0, 0)) (bK BK173.out) hb); have n6_ := Am (below_step (bB HB.out) hb); clear HO_159002; clear HO_174002; clear BK158; clear BK159; clear BK173; clear HB; have HO_159002 := n0_; have HO_174002 := n1_; have HO178 := n2_; have BK158 := n3_; have BK159 := n4_; have BK173 := n5_; have HB := n6_; clear n0_ n1_ n2_ n3_ n4_ n5_ n6_; (try clear hb); (try clear hb2); (try clear hk); (try clear hi); (try clear ho0); have hcz40_0 : w39.cell? ⟨gb173, 0, none⟩ = some (.int .u64 t167) := (blk_cell BK173.out 0).trans rfl; have hcz40_1 : w39.cell? ⟨gb173, 1, none⟩ = some (.int .u32 t168) := (blk_cell BK173.out 1).trans rfl; have hcz40_2 : w39.cell? ⟨gb173, 2, none⟩ = some (.slice Ao31 t169.length co31) := (blk_cell BK173.out 2).trans rfl; have hfz40_0 := blk_frozen BK173.out 0; have hfz40_1 := blk_frozen BK173.out 1; have hfz40_2 := blk_frozen BK173.out 2; obtain ⟨Ao41, co41, eo41⟩ := Kd.R_slice HO178.out; subst eo41)))
         go_meet
         case rel => exact ⟨_, (t179), (t174), (t175), (t176), (.slice Ao41 t176.length co41), rs_, H', ⟨by have := HJ4.out; have := HJ21.out; first | omega | exact Nat.le_refl _⟩, ⟨by (with_reducible repeat (first | apply Kd.R_alloc | apply Kd.R_drewN | apply Kd.R_drew)); exact Kd.R_mono (Kd.R_far (p := ⟨gb173, 2, none⟩) (Kd.R_far (p := ⟨gb173, 1, none⟩) (Kd.R_far (p := ⟨gb173, 0, none⟩) (Kd.R_types HO_159002.out BK173.out (by decide)) (fun _ hk => hk.2) (.int .u64 t174)) (fun _ hk => hk.2) (.int .u32 t175)) (fun _ hk => hk.2) (.slice Ao41 t176.length co41)) (fun _ hk => hk.1.2)⟩, ⟨by (with_reducible repeat (first | apply Kd.R_alloc | apply Kd.R_drewN | apply Kd.R_drew)); exact Kd.R_mono (Kd.R_far (p := ⟨gb173, 2, none⟩) (Kd.R_far (p := ⟨gb173, 1, none⟩) (Kd.R_far (p := ⟨gb173, 0, none⟩) (Kd.R_types HO178.out BK173.out (by decide)) (fun _ hk => hk.2) (.int .u64 t174)) (fun _ hk => hk.2) (.int .u32 t175)) (fun _ hk => hk.2) (.slice Ao41 t176.length co41)) (fun _ hk => hk.1.1.2)⟩, ⟨by (with_reducible repeat (first | refine blk_drewN ?_ _ | refine blk_drew ?_ | refine blk_alloc ?_ _)); refine blk_far ?_ NB158_173.out _; (with_reducible repeat (first | refine blk_drewN ?_ _ | refine blk_drew ?_ | refine blk_alloc ?_ _)); refine blk_far ?_ NB158_173.out _; (with_reducible repeat (first | refine blk_drewN ?_ _ | refine blk_drew ?_ | refine blk_alloc ?_ _)); refine blk_far ?_ NB158_173.out _; (with_reducible repeat (first | refine blk_drewN ?_ _ | refine blk_drew ?_ | refine blk_alloc ?_ _)); exact BK158.out⟩, ⟨by (with_reducible repeat (first | refine blk_drewN ?_ _ | refine blk_drew ?_ | refine blk_alloc ?_ _)); refine blk_far ?_ NB159_173.out _; (with_reducible repeat (first | refine blk_drewN ?_ _ | refine blk_drew ?_ | refine blk_alloc ?_ _)); refine blk_far ?_ NB159_173.out _; (with_reducible repeat (first | refine blk_drewN ?_ _ | refine blk_drew ?_ | refine blk_alloc ?_ _)); refine blk_far ?_ NB159_173.out _; (with_reducible repeat (first | refine blk_drewN ?_ _ | refine blk_drew ?_ | refine blk_alloc ?_ _)); exact BK159.out⟩, ⟨by (with_reducible repeat (first | refine blk_drewN ?_ _ | refine blk_drew ?_ | refine blk_alloc ?_ _)); refine blk_put (cs := #[.int .u64 t174, .int .u32 t175, .slice Ao31 t169.length co31]) ?_ 2 _ rfl; (with_reducible repeat (first | refine blk_drewN ?_ _ | refine blk_drew ?_ | refine blk_alloc ?_ _)); refine blk_put (cs := #[.int .u64 t174, .int .u32 t168, .slice Ao31 t169.length co31]) ?_ 1 _ rfl; (with_reducible repeat (first | refine blk_drewN ?_ _ | refine blk_drew ?_ | refine blk_alloc ?_ _)); refine blk_put (cs := #[.int .u64 t167, .int .u32 t168, .slice Ao31 t169.length co31]) ?_ 0 _ rfl; (with_reducible repeat (first | refine blk_drewN ?_ _ | refine blk_drew ?_ | refine blk_alloc ?_ _)); exact BK173.out⟩, ⟨bB HB.out⟩⟩
        ·replace c34 := Bool.eq_false_iff.mpr c34
         subst c34
         have H1 : (coder_PutNum.j2 kj21 t172 t160 t161 t162 t167 t168 t169) = some (r1, r2, r3, r4) := by rw [if_neg (show ¬ (false = true) by decide)] at H; exact H
         clear H
         have H := H1
         clear H1
         have H' := Am H
         clear H
         go_wp2
         repeat (go_quiet (fail); try go_wp2)
         go_meet
         case rel => exact ⟨_, (t172), (t167), (t168), (t169), (.slice Ao31 t169.length co31), rs_, H', ⟨by have := HJ4.out; have := HJ21.out; first | omega | exact Nat.le_refl _⟩, ⟨by (with_reducible repeat (first | apply Kd.R_alloc | apply Kd.R_drewN | apply Kd.R_drew)); exact HO_159002.out⟩, ⟨by (with_reducible repeat (first | apply Kd.R_alloc | apply Kd.R_drewN | apply Kd.R_drew)); exact HO_174002.out⟩, ⟨by (with_reducible repeat (first | refine blk_drewN ?_ _ | refine blk_drew ?_ | refine blk_alloc ?_ _)); exact BK158.out⟩, ⟨by (with_reducible repeat (first | refine blk_drewN ?_ _ | refine blk_drew ?_ | refine blk_alloc ?_ _)); exact BK159.out⟩, ⟨by (with_reducible repeat (first | refine blk_drewN ?_ _ | refine blk_drew ?_ | refine blk_alloc ?_ _)); exact BK173.out⟩, ⟨bB HB.out⟩⟩
       case rest =>
        clear HC33
        try clear c1
        try clear c2
        try clear p2
        try clear c3
        try clear c6
        try clear p6
        try clear c8
        try clear c13
        try clear c13b0
        try clear c14
        try clear c14b0
        try clear c15
        try clear c16
        try clear c20
        try clear c20b0
        try clear c20b1
        try clear c24
        try clear c28
        try clear c29
        try clear c32
        try clear c32b0
        try clear c32b1
        try clear c34
        try clear c36
        try clear c37
        try clear hcz11_0
        try clear hcz11_1
        try clear hcz11_2
        try clear hcz17_0
        try clear hcz17_1
        try clear hcz17_2
        try clear hcz18_0
        try clear hcz18_1
        try clear hcz18_2
        try clear hcz25_0
        try clear hcz25_1
        try clear hcz25_2
        try clear hcz30_0
        try clear hcz30_1
        try clear hcz30_2
        try clear hcz38_0
        try clear hcz38_1
        try clear hcz38_2
        try clear hcz40_0
        try clear hcz40_1
        try clear hcz40_2
        try clear hcz9_0
        try clear hcz9_1
        try clear hcz9_2
        try clear hfz11_0
        try clear hfz11_1
        try clear hfz11_2
        try clear hfz17_0
        try clear hfz17_1
        try clear hfz17_2
        try clear hfz18_0
        try clear hfz18_1
        try clear hfz18_2
        try clear hfz25_0
        try clear hfz25_1
        try clear hfz25_2
        try clear hfz30_0
        try clear hfz30_1
        try clear hfz30_2
        try clear hfz38_0
        try clear hfz38_1
        try clear hfz38_2
        try clear hfz40_0
        try clear hfz40_1
        try clear hfz40_2
        try clear hfz9_0
        try clear hfz9_1
        try clear hfz9_2
        try clear p2
        try clear p6
        obtain ⟨kq, x13_32, x174000_32, x174001_32, x174002_32, u174002, rfl, HA, HJ32, HO_159002, HO_174002, BK158, BK159, BK173, HB⟩ := hcut
        cases kq with
        | zero => exact absurd HA.out (by simp [coder_PutNum.j2])
        | succ kj32 =>
         have H := HA.out
         clear HA
         simp only [coder_PutNum.j2] at H
         by_cases c42 : x13_32 = 0
         ·rw [if_pos c42] at H
          have c42b0 : (x13_32 == 0) = true := beq_iff_eq.mpr c42
          have c42b1 : (x13_32 != 0) = false := bne_eq_false_iff_eq.mpr c42
          clear c42
          simp only [Option.some.injEq, Prod.mk.injEq] at H
          obtain ⟨rfl, rfl, rfl, rfl⟩ := H
          have hnb43 := NB173_158.out
          have hnc43 := NB158_173.out
          have hnb44 := NB173_159.out
          have hnc44 := NB159_173.out
          have hcz45_0 : wc.cell? ⟨gb173, 0, none⟩ = some (.int .u64 x174000_32) := (blk_cell BK173.out 0).trans rfl
          have hcz45_1 : wc.cell? ⟨gb173, 1, none⟩ = some (.int .u32 x174001_32) := (blk_cell BK173.out 1).trans rfl
          have hcz45_2 : wc.cell? ⟨gb173, 2, none⟩ = some (u174002) := (blk_cell BK173.out 2).trans rfl
          have hfz45_0 := blk_frozen BK173.out 0
          have hfz45_1 := blk_frozen BK173.out 1
          have hfz45_2 := blk_frozen BK173.out 2
          have hnb46 := NB159_158.out
          have hnc46 := NB158_159.out
          have hcz47_0 : wc.cell? ⟨gb159, 0, none⟩ = some (.int .u64 0) := (blk_cell BK159.out 0).trans rfl
          have hcz47_1 : wc.cell? ⟨gb159, 1, none⟩ = some (.int .u32 0) := (blk_cell BK159.out 1).trans rfl
          have hcz47_2 : wc.cell? ⟨gb159, 2, none⟩ = some (.slice none 0 0) := (blk_cell BK159.out 2).trans rfl
          have hfz47_0 := blk_frozen BK159.out 0
          have hfz47_1 := blk_frozen BK159.out 1
          have hfz47_2 := blk_frozen BK159.out 2
          obtain ⟨Ao48, co48, eo48⟩ := Kd.R_slice HO_174002.out
          subst eo48
          go_wp2
          repeat (go_quiet (fail); try go_wp2)
          refine bodyPost_ret (results_ct rfl _ _ gb159 52 #[.int .u64 x174000_32, .int .u32 x174001_32, .slice Ao48 x174002_32.length co48] (0, 0) _ rfl (by (with_reducible repeat (first | refine blk_drewN ?_ _ | refine blk_drew ?_ | refine blk_alloc ?_ _)); refine blk_put (cs := #[.int .u64 x174000_32, .int .u32 x174001_32, .slice none 0 0]) ?_ 2 _ rfl; (with_reducible repeat (first | refine blk_drewN ?_ _ | refine blk_drew ?_ | refine blk_alloc ?_ _)); refine blk_put (cs := #[.int .u64 x174000_32, .int .u32 0, .slice none 0 0]) ?_ 1 _ rfl; (with_reducible repeat (first | refine blk_drewN ?_ _ | refine blk_drew ?_ | refine blk_alloc ?_ _)); refine blk_put (cs := #[.int .u64 0, .int .u32 0, .slice none 0 0]) ?_ 0 _ rfl; (with_reducible repeat (first | refine blk_drewN ?_ _ | refine blk_drew ?_ | refine blk_alloc ?_ _)); exact BK159.out) Try.underlying52 rfl (by kernel_rfl)) rfl ?_
          exact ⟨_, by first | rfl | (simp [errW_none, errW_some] <;> rfl) | (simp [*, errW_none, errW_some] <;> rfl), by (with_reducible repeat (first | apply Kd.R_alloc | apply Kd.R_drewN | apply Kd.R_drew)); exact Kd.R_mono (Kd.R_far (p := ⟨gb159, 2, none⟩) (Kd.R_far (p := ⟨gb159, 1, none⟩) (Kd.R_far (p := ⟨gb159, 0, none⟩) (Kd.R_types HO_174002.out BK159.out (by decide)) (fun _ hk => hk.2) (.int .u64 x174000_32)) (fun _ hk => hk.2) (.int .u32 x174001_32)) (fun _ hk => hk.2) (.slice Ao48 x174002_32.length co48)) (fun _ hk => trivial), bB HB.out⟩
         ·rw [if_neg c42] at H
          have c42b0 : (x13_32 == 0) = false := beq_eq_false_iff_ne.mpr c42
          have c42b1 : (x13_32 != 0) = true := bne_iff_ne.mpr c42
          simp only [Option.some.injEq, Prod.mk.injEq] at H
          obtain ⟨rfl, rfl, rfl, rfl⟩ := H
          have hnb49 := NB158_159.out
          have hnc49 := NB159_158.out
          have hnb50 := NB158_173.out
          have hnc50 := NB173_158.out
          have hcz51_0 : wc.cell? ⟨gb158, 0, none⟩ = some (.int .u64 t160) := (blk_cell BK158.out 0).trans rfl
          have hcz51_1 : wc.cell? ⟨gb158, 1, none⟩ = some (.int .u32 t161) := (blk_cell BK158.out 1).trans rfl
          have hcz51_2 : wc.cell? ⟨gb158, 2, none⟩ = some (.slice Ao12 t162.length co12) := (blk_cell BK158.out 2).trans rfl
          have hfz51_0 := blk_frozen BK158.out 0
          have hfz51_1 := blk_frozen BK158.out 1
          have hfz51_2 := blk_frozen BK158.out 2
          have hnb52 := NB159_173.out
          have hnc52 := NB173_159.out
          have hcz53_0 : wc.cell? ⟨gb159, 0, none⟩ = some (.int .u64 0) := (blk_cell BK159.out 0).trans rfl
          have hcz53_1 : wc.cell? ⟨gb159, 1, none⟩ = some (.int .u32 0) := (blk_cell BK159.out 1).trans rfl
          have hcz53_2 : wc.cell? ⟨gb159, 2, none⟩ = some (.slice none 0 0) := (blk_cell BK159.out 2).trans rfl
          have hfz53_0 := blk_frozen BK159.out 0
          have hfz53_1 := blk_frozen BK159.out 1
          have hfz53_2 := blk_frozen BK159.out 2
          go_wp2
          repeat (go_quiet (fail); try go_wp2)
          refine bodyPost_ret (results_ct rfl _ _ gb159 52 #[.int .u64 t160, .int .u32 t161, .slice Ao12 t162.length co12] (0, 0) _ rfl (by (with_reducible repeat (first | refine blk_drewN ?_ _ | refine blk_drew ?_ | refine blk_alloc ?_ _)); refine blk_put (cs := #[.int .u64 t160, .int .u32 t161, .slice none 0 0]) ?_ 2 _ rfl; (with_reducible repeat (first | refine blk_drewN ?_ _ | refine blk_drew ?_ | refine blk_alloc ?_ _)); refine blk_put (cs := #[.int .u64 t160, .int .u32 0, .slice none 0 0]) ?_ 1 _ rfl; (with_reducible repeat (first | refine blk_drewN ?_ _ | refine blk_drew ?_ | refine blk_alloc ?_ _)); refine blk_put (cs := #[.int .u64 0, .int .u32 0, .slice none 0 0]) ?_ 0 _ rfl; (with_reducible repeat (first | refine blk_drewN ?_ _ | refine blk_drew ?_ | refine blk_alloc ?_ _)); exact BK159.out) Try.underlying52 rfl (by kernel_rfl)) rfl ?_
          exact ⟨_, by first | rfl | (simp [errW_none, errW_some] <;> rfl) | (simp [*, errW_none, errW_some] <;> rfl), by (with_reducible repeat (first | apply Kd.R_alloc | apply Kd.R_drewN | apply Kd.R_drew)); exact Kd.R_mono (Kd.R_far (p := ⟨gb159, 2, none⟩) (Kd.R_far (p := ⟨gb159, 1, none⟩) (Kd.R_far (p := ⟨gb159, 0, none⟩) (Kd.R_types HO_159002.out BK159.out (by decide)) (fun _ hk => hk.2) (.int .u64 t160)) (fun _ hk => hk.2) (.int .u32 t161)) (fun _ hk => hk.2) (.slice Ao12 t162.length co12)) (fun _ hk => trivial), bB HB.out⟩

end Go.Proofs.Ytgknajladloffaa.Q
