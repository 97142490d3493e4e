-- by a program of this session (wip/myprint.py)
import Derived.Test.YtgknajladloffaaDx12
import Derived.Test.YtgknajladloffaaQx0
import Derived.Test.YtgknajladloffaaQx1
import Derived.Test.YtgknajladloffaaQx9
import Derived.Test.YtgknajladloffaaQx11
namespace Go.Proofs.Ytgknajladloffaa.Q
open Go.RowKit Go.Proofs.YtgknajladloffaaW.PrintWords Go.Proofs.YtgknajladloffaaW.PrintLast Go.Proofs.YtgknajladloffaaW.PrintMore
attribute [local go_sem] max2_int min2_int max_two min_two max_three min_three max_four min_four   -- for this text's walks alone
set_option linter.unusedVariables false
set_option linter.unusedSimpArgs false

/-! ### gain_Take: function 36 -/
set_option maxHeartbeats 8000000 in
set_option maxRecDepth 100000 in
theorem gain_Take.calls (k : Nat) (a0_0 : Int) (a0_1 : Int) (P0_2_ : Nat → Prop) (A0_2 : Option Addr) (c0_2 : Nat) (l0_2 : List Int) (a0_3 : Int) (A1 : Option Addr) (c1 : Nat) (l1 : List Int) (a2 : Bool) (r1 : Int) (r2 : Int) (r3 : List Int) (r4 : Int) (r5 : List Int) (r6 : Int) (w : World) (hs0_2 : Kd.V (Kd.int .u8) 5 w w.heap.size (fun k_ => P0_2_ k_) (.slice A0_2 l0_2.length c0_2) l0_2) (hr1 : Kd.C (Kd.int .i64) w A1 l1.length l1) (hc1 : l1.length ≤ c1) (h : gain_Take.f k a0_0 a0_1 l0_2 a0_3 l1 a2 = some (r1, r2, r3, r4, r5, r6)) :
  Calls Try.prog 36 #[.agg #[.int .u64 a0_0, .int .u32 a0_1, .slice A0_2 l0_2.length c0_2, .int .i64 a0_3], .slice A1 l1.length c1, .bool a2] w fun e w' => ∃ v2_ v4_ : Value, e = .returned (.tuple #[.agg #[.int .u64 r1, .int .u32 r2, v2_, .int .i64 r4], v4_, .int .i64 r6]) ∧ Kd.V (Kd.int .u8) 5 w' w.heap.size (fun k_ => (P0_2_ k_ ∨ w.heap.size ≤ k_) ∧ some k_ ≠ (v4_ : Value).ownBlock) v2_ r3 ∧ Kd.R (Kd.int .i64) 3 w' w.heap.size (fun k_ => (w.heap.size ≤ k_)) v4_ r5 ∧ Below w.heap.size w w' := by
 have hu60 := Try.underlying60
 have HO0_2 := Am (show Kd.V (Kd.int .u8) 5 w w.heap.size (fun k_ => (P0_2_ k_ ∨ w.heap.size ≤ k_)) (.slice A0_2 l0_2.length c0_2) l0_2 from Kd.V_mono hs0_2 (fun k_ hk => .inl hk))
 have HR1 := Am hr1
 have HC1 := Am hc1
 clear hr1 hc1
 have HB := Am (Below.refl w.heap.size w)
 have H : (if a2 = true then (gain_Take.j0 k l1 a2 false a0_0 a0_1 l0_2 a0_3) else ((gain_Right.f k l1).bind fun t341 => (gain_Take.j0 k l1 a2 (!t341) a0_0 a0_1 l0_2 a0_3))) = some (r1, r2, r3, r4, r5, r6) := h
 clear h
 have HC4 := Am H
 clear H
 go_enter Try.func36, Try.ntmps36
 go_upto_region 1 with (first | ((with_reducible refine gate_dst (N := 3) rfl ?_); refine box_event ?hg (N := 3) ?hd (cs := #[.int .u64 a0_0, .int .u32 a0_1, .slice A0_2 l0_2.length c0_2, .int .i64 a0_3]) (t := 60) ?hr ?_; (case hd => rfl); (case hg => rfl); (case hr => first | (go_simp; done) | (go_simp; rfl)); intro gb339 hg w5 hbox hb; have n0_ := Am (Kd.V_below (Kd.V_elderB (kV HO0_2.out) gb339 (Nat.le_of_eq hg.symm)) hb); have n1_ := Am (below_step (bB HB.out) hb); have n2_ := Am (hbox); have n3_ := Am ((by rw [hg]; exact (below_size (bB HB.out)) : w.heap.size ≤ gb339)); have n4_ := Am ((by rw [hg]; exact (below_size (bB HB.out)) : w.heap.size ≤ gb339)); clear HO0_2; clear HB; have HO0_2 := n0_; have HB := n1_; have BK339 := n2_; have GW339 := n3_; have GE339 := n4_; clear n0_ n1_ n2_ n3_ n4_; clear hb hbox hg) | ((with_reducible refine gate_dst (N := 6) rfl ?_); refine box_event ?hg (N := 6) ?hd (cs := #[.int .u64 0, .int .u32 0, .slice none 0 0, .int .i64 0]) (t := 60) ?hr ?_; (case hd => rfl); (case hg => rfl); (case hr => first | (go_simp; done) | (go_simp; rfl)); intro gb340 hg w6 hbox hb; have n0_ := Am (Kd.V_below (Kd.V_elderB (kV HO0_2.out) gb340 (Nat.le_of_eq hg.symm)) hb); have n1_ := Am (blk_below (g := gb339) (o := .cells #[.int .u64 a0_0, .int .u32 a0_1, .slice A0_2 l0_2.length c0_2, .int .i64 a0_3] 60 (0, 0)) (bK BK339.out) hb); have n2_ := Am (below_step (bB HB.out) hb); have n3_ := Am (hbox); have n4_ := Am ((by rw [hg]; exact (below_size (bB HB.out)) : w.heap.size ≤ gb340)); have n5_ := Am ((by rw [hg]; exact (below_size (bB HB.out)) : w.heap.size ≤ gb340)); have n6_ := Am ((by rw [hg]; exact Nat.ne_of_lt (blk_lt (g := gb339) (o := .cells #[.int .u64 a0_0, .int .u32 a0_1, .slice A0_2 l0_2.length c0_2, .int .i64 a0_3] 60 (0, 0)) (bK BK339.out)) : gb339 ≠ gb340)); have n7_ := Am ((by rw [hg]; exact Nat.ne_of_gt (blk_lt (g := gb339) (o := .cells #[.int .u64 a0_0, .int .u32 a0_1, .slice A0_2 l0_2.length c0_2, .int .i64 a0_3] 60 (0, 0)) (bK BK339.out)) : gb340 ≠ gb339)); clear HO0_2; clear BK339; clear HB; have HO0_2 := n0_; have BK339 := n1_; have HB := n2_; have BK340 := n3_; have GW340 := n4_; have GE340 := n5_; have NB339_340 := n6_; have NB340_339 := n7_; clear n0_ n1_ n2_ n3_ n4_ n5_ n6_ n7_; clear hb hbox hg))
 (try simp only [Act.put, List.setIfInBounds_toArray, List.set_cons_zero, List.set_cons_succ])
 go_cut [20] (fun v20 wc => ∃ (kq : Nat) (x20_3 : Bool), v20 = .bool x20_3 ∧ Aside0 (gain_Take.j0 kq l1 a2 x20_3 a0_0 a0_1 l0_2 a0_3 = some (r1, r2, r3, r4, r5, r6)) ∧ Aside0 (kq ≤ k) ∧ Aside0 (Kd.V (Kd.int .u8) 5 wc w.heap.size (fun k_ => (P0_2_ k_ ∨ w.heap.size ≤ k_) ∧ k_ ≠ gb339 ∧ k_ ≠ gb340) (.slice A0_2 l0_2.length c0_2) l0_2) ∧ Aside0 (wc.heap[gb339]? = some (.cells #[.int .u64 a0_0, .int .u32 a0_1, (.slice A0_2 l0_2.length c0_2), .int .i64 a0_3] 60 (0, 0))) ∧ Aside0 (wc.heap[gb340]? = some (.cells #[.int .u64 0, .int .u32 0, (.slice none 0 0), .int .i64 0] 60 (0, 0))) ∧ Aside0 (Below w.heap.size w wc))
 case first =>
  have H := HC4.out
  clear HC4
  by_cases c7 : a2 = true
  ·subst c7
   have H1 : (gain_Take.j0 k l1 true false a0_0 a0_1 l0_2 a0_3) = some (r1, r2, r3, r4, r5, r6) := by rw [if_pos rfl] at H; exact H
   clear H
   have H := H1
   clear H1
   have H' := Am H
   clear H
   go_wp2
   go_meet
   case rel => exact ⟨_, (false), rs_, H', ⟨by first | omega | exact Nat.le_refl _⟩, ⟨by (with_reducible repeat (first | apply Kd.V_alloc | apply Kd.V_drewN | apply Kd.V_drew)); exact Kd.V_mono HO0_2.out (fun _ hk => ⟨hk.1.1, ⟨hk.1.2, hk.2⟩⟩)⟩, ⟨by (with_reducible repeat (first | refine blk_drewN ?_ _ | refine blk_drew ?_ | refine blk_alloc ?_ _)); exact BK339.out⟩, ⟨by (with_reducible repeat (first | refine blk_drewN ?_ _ | refine blk_drew ?_ | refine blk_alloc ?_ _)); exact BK340.out⟩, ⟨bB HB.out⟩⟩
  ·replace c7 := Bool.eq_false_iff.mpr c7
   subst c7
   have H1 : ((gain_Right.f k l1).bind fun t341 => (gain_Take.j0 k l1 false (!t341) a0_0 a0_1 l0_2 a0_3)) = some (r1, r2, r3, r4, r5, r6) := by rw [if_neg (show ¬ (false = true) by decide)] at H; exact H
   clear H
   have H := H1
   clear H1
   replace H := Option.bind_eq_some_iff.mp H
   obtain ⟨t341, A80, H⟩ := H
   replace H : (gain_Take.j0 k l1 false (!t341) a0_0 a0_1 l0_2 a0_3) = some (r1, r2, r3, r4, r5, r6) := H
   have A8 := Am A80
   clear A80
   have H' := Am H
   clear H
   go_wp2_with (first | (go_at_call 85; (with_reducible refine (gain_Right.calls k _ _ l1 t341 _ ?side1 ?side2 A8.out).mono ?_); (case side1 => repeat (first | exact (Kd.C_below HR1.out HB.out) | (with_reducible refine Kd.C_alloc ?_ _) | (with_reducible refine Kd.C_drewN ?_ _) | (with_reducible refine Kd.C_drew ?_))); (case side2 => exact HC1.out); rintro e w' ⟨rfl, ⟨nd, rfl⟩⟩))
   go_meet
   case rel => exact ⟨_, (!t341), rs_, H', ⟨by first | omega | exact Nat.le_refl _⟩, ⟨by (with_reducible repeat (first | apply Kd.V_alloc | apply Kd.V_drewN | apply Kd.V_drew)); exact Kd.V_mono HO0_2.out (fun _ hk => ⟨hk.1.1, ⟨hk.1.2, hk.2⟩⟩)⟩, ⟨by (with_reducible repeat (first | refine blk_drewN ?_ _ | refine blk_drew ?_ | refine blk_alloc ?_ _)); exact BK339.out⟩, ⟨by (with_reducible repeat (first | refine blk_drewN ?_ _ | refine blk_drew ?_ | refine blk_alloc ?_ _)); exact BK340.out⟩, ⟨bB HB.out⟩⟩
 case rest =>
  clear HC4
  try clear c1
  try clear p2
  try clear c3
  try clear c7
  obtain ⟨kq, x20_3, rfl, HA, HJ3, HO_340002, BK339, BK340, HB⟩ := hcut
  cases kq with
  | zero => exact absurd HA.out (by simp [gain_Take.j0])
  | succ kj3 =>
   have H := HA.out
   clear HA
   simp only [gain_Take.j0] at H
   by_cases c9 : x20_3 = true
   ·subst c9
    have H1 : ((coder_Take.f kj3 a0_0 a0_1 l0_2 a0_3 0 1 1).bind fun bt342 => (some (bt342.1, bt342.2.1, bt342.2.2.1, bt342.2.2.2.1, ([] : List Int), 1))) = some (r1, r2, r3, r4, r5, r6) := by rw [if_pos rfl] at H; exact H
    clear H
    have H := H1
    clear H1
    replace H := Option.bind_eq_some_iff.mp H
    obtain ⟨⟨t342, t343, t344, t347, t348⟩, A100, H⟩ := H
    replace H : (some (t342, t343, t344, t347, ([] : List Int), 1)) = some (r1, r2, r3, r4, r5, r6) := H
    have A10 := Am A100
    clear A100
    simp only [Option.some.injEq, Prod.mk.injEq] at H
    obtain ⟨rfl, rfl, rfl, rfl, rfl, rfl⟩ := H
    have hnb11 := NB339_340.out
    have hnc11 := NB340_339.out
    have hcz12_0 : wc.cell? ⟨gb339, 0, none⟩ = some (.int .u64 a0_0) := (blk_cell BK339.out 0).trans rfl
    have hcz12_1 : wc.cell? ⟨gb339, 1, none⟩ = some (.int .u32 a0_1) := (blk_cell BK339.out 1).trans rfl
    have hcz12_2 : wc.cell? ⟨gb339, 2, none⟩ = some (.slice A0_2 l0_2.length c0_2) := (blk_cell BK339.out 2).trans rfl
    have hcz12_3 : wc.cell? ⟨gb339, 3, none⟩ = some (.int .i64 a0_3) := (blk_cell BK339.out 3).trans rfl
    have hfz12_0 := blk_frozen BK339.out 0
    have hfz12_1 := blk_frozen BK339.out 1
    have hfz12_2 := blk_frozen BK339.out 2
    have hfz12_3 := blk_frozen BK339.out 3
    go_wp2_with (first | ((with_reducible refine gate_callee (f := 81) rfl ?_); refine goesL_ (some 23) rfl rfl Try.func81 (by kernel_rfl) rfl #[.agg #[.int .u64 a0_0, .int .u32 a0_1, .slice A0_2 l0_2.length c0_2, .int .i64 a0_3], .int .i64 0, .int .i64 1, .int .i64 1] rfl ls_ ?_; (with_reducible refine (coder_Take.calls kj3 a0_0 a0_1 (fun k_ => ((P0_2_ k_ ∨ w.heap.size ≤ k_) ∧ (k_ ≠ gb339 ∧ k_ ≠ gb340))) _ _ l0_2 a0_3 0 1 1 t342 t343 t344 t347 t348 _ ?side1 A10.out).mono ?_); (case side1 => exact HO_340002.out); rintro e w13 ⟨v345, rfl, ho0, hb⟩; refine ⟨_, rfl, ?_⟩; have n0_ := Am (Kd.V_below (kV HO_340002.out) hb); have n1_ := Am (Kd.V_lower (Kd.V_mono (ok' := fun k_ => (P0_2_ k_ ∨ w.heap.size ≤ k_) ∧ k_ ≠ gb339 ∧ k_ ≠ gb340) ho0 (fun k_ hk_ => ⟨Or.elim hk_ (fun hs_ => hs_.1) (fun hn_ => (.inr (Nat.le_trans (below_size (bB HB.out)) hn_))), Or.elim hk_ (fun hs_ => hs_.2.1) (fun hn_ => (Kd.freshB (g := gb339) (o := .cells #[.int .u64 a0_0, .int .u32 a0_1, .slice A0_2 l0_2.length c0_2, .int .i64 a0_3] 60 (0, 0)) (bK BK339.out) k_ hn_)), Or.elim hk_ (fun hs_ => hs_.2.2) (fun hn_ => (Kd.freshB (g := gb340) (o := .cells #[.int .u64 0, .int .u32 0, .slice none 0 0, .int .i64 0] 60 (0, 0)) (bK BK340.out) k_ hn_))⟩)) (below_size (bB HB.out))); have n2_ := Am (blk_below (g := gb339) (o := .cells #[.int .u64 a0_0, .int .u32 a0_1, .slice A0_2 l0_2.length c0_2, .int .i64 a0_3] 60 (0, 0)) (bK BK339.out) hb); have n3_ := Am (blk_below (g := gb340) (o := .cells #[.int .u64 0, .int .u32 0, .slice none 0 0, .int .i64 0] 60 (0, 0)) (bK BK340.out) hb); have n4_ := Am (below_step (bB HB.out) hb); clear HO_340002; clear BK339; clear BK340; clear HB; have HO_340002 := n0_; have HO346 := n1_; have BK339 := n2_; have BK340 := n3_; have HB := n4_; clear n0_ n1_ n2_ n3_ n4_; (try clear hb); (try clear hb2); (try clear hk); (try clear hi); (try clear ho0); have hcz14_0 : w13.cell? ⟨gb339, 0, none⟩ = some (.int .u64 a0_0) := (blk_cell BK339.out 0).trans rfl; have hcz14_1 : w13.cell? ⟨gb339, 1, none⟩ = some (.int .u32 a0_1) := (blk_cell BK339.out 1).trans rfl; have hcz14_2 : w13.cell? ⟨gb339, 2, none⟩ = some (.slice A0_2 l0_2.length c0_2) := (blk_cell BK339.out 2).trans rfl; have hcz14_3 : w13.cell? ⟨gb339, 3, none⟩ = some (.int .i64 a0_3) := (blk_cell BK339.out 3).trans rfl; have hfz14_0 := blk_frozen BK339.out 0; have hfz14_1 := blk_frozen BK339.out 1; have hfz14_2 := blk_frozen BK339.out 2; have hfz14_3 := blk_frozen BK339.out 3; obtain ⟨Ao15, co15, eo15⟩ := Kd.V_slice HO346.out; subst eo15; have hcz16_0 : w13.cell? ⟨gb340, 0, none⟩ = some (.int .u64 0) := (blk_cell BK340.out 0).trans rfl; have hcz16_1 : w13.cell? ⟨gb340, 1, none⟩ = some (.int .u32 0) := (blk_cell BK340.out 1).trans rfl; have hcz16_2 : w13.cell? ⟨gb340, 2, none⟩ = some (.slice none 0 0) := (blk_cell BK340.out 2).trans rfl; have hcz16_3 : w13.cell? ⟨gb340, 3, none⟩ = some (.int .i64 0) := (blk_cell BK340.out 3).trans rfl; have hfz16_0 := blk_frozen BK340.out 0; have hfz16_1 := blk_frozen BK340.out 1; have hfz16_2 := blk_frozen BK340.out 2; have hfz16_3 := blk_frozen BK340.out 3))
    refine bodyPost_ret (results_ctt rfl _ _ gb340 60 #[.int .u64 t342, .int .u32 t343, .slice Ao15 t344.length co15, .int .i64 t347] (0, 0) _ rfl (by (with_reducible repeat (first | refine blk_drewN ?_ _ | refine blk_drew ?_ | refine blk_alloc ?_ _)); refine blk_put (cs := #[.int .u64 t342, .int .u32 t343, .slice Ao15 t344.length co15, .int .i64 0]) ?_ 3 _ rfl; (with_reducible repeat (first | refine blk_drewN ?_ _ | refine blk_drew ?_ | refine blk_alloc ?_ _)); refine blk_put (cs := #[.int .u64 t342, .int .u32 t343, .slice none 0 0, .int .i64 0]) ?_ 2 _ rfl; (with_reducible repeat (first | refine blk_drewN ?_ _ | refine blk_drew ?_ | refine blk_alloc ?_ _)); refine blk_put (cs := #[.int .u64 t342, .int .u32 0, .slice none 0 0, .int .i64 0]) ?_ 1 _ rfl; (with_reducible repeat (first | refine blk_drewN ?_ _ | refine blk_drew ?_ | refine blk_alloc ?_ _)); refine blk_put (cs := #[.int .u64 0, .int .u32 0, .slice none 0 0, .int .i64 0]) ?_ 0 _ rfl; (with_reducible repeat (first | refine blk_drewN ?_ _ | refine blk_drew ?_ | refine blk_alloc ?_ _)); refine blk_far ?_ NB340_339.out _; (with_reducible repeat (first | refine blk_drewN ?_ _ | refine blk_drew ?_ | refine blk_alloc ?_ _)); refine blk_far ?_ NB340_339.out _; (with_reducible repeat (first | refine blk_drewN ?_ _ | refine blk_drew ?_ | refine blk_alloc ?_ _)); refine blk_far ?_ NB340_339.out _; (with_reducible repeat (first | refine blk_drewN ?_ _ | refine blk_drew ?_ | refine blk_alloc ?_ _)); refine blk_far ?_ NB340_339.out _; (with_reducible repeat (first | refine blk_drewN ?_ _ | refine blk_drew ?_ | refine blk_alloc ?_ _)); exact BK340.out) Try.underlying60 rfl (by kernel_rfl)) rfl ?_
    exact ⟨_, _, by first | rfl | (simp [errW_none, errW_some] <;> rfl) | (simp [*, errW_none, errW_some] <;> rfl), by (with_reducible repeat (first | apply Kd.V_alloc | apply Kd.V_drewN | apply Kd.V_drew)); exact Kd.V_mono (Kd.V_far (p := ⟨gb340, 3, none⟩) (Kd.V_far (p := ⟨gb340, 2, none⟩) (Kd.V_far (p := ⟨gb340, 1, none⟩) (Kd.V_far (p := ⟨gb340, 0, none⟩) (Kd.V_far (p := ⟨gb339, 3, none⟩) (Kd.V_far (p := ⟨gb339, 2, none⟩) (Kd.V_far (p := ⟨gb339, 1, none⟩) (Kd.V_far (p := ⟨gb339, 0, none⟩) (Kd.V_mono (Kd.V_mono HO346.out (fun k_ hk => (⟨hk, hk.2.1⟩ : _ ∧ k_ ≠ gb339))) (fun k_ hk => (⟨hk, hk.1.2.2⟩ : _ ∧ k_ ≠ gb340))) (fun _ hk => hk.1.2) (.int .u64 t342)) (fun _ hk => hk.1.2) (.int .u32 t343)) (fun _ hk => hk.1.2) (.slice Ao15 t344.length co15)) (fun _ hk => hk.1.2) (.int .i64 t347)) (fun _ hk => hk.2) (.int .u64 t342)) (fun _ hk => hk.2) (.int .u32 t343)) (fun _ hk => hk.2) (.slice Ao15 t344.length co15)) (fun _ hk => hk.2) (.int .i64 t347)) (fun _ hk => ⟨hk.1.1.1, (by simp [Value.ownBlock])⟩), by first | exact Kd.R_nil _ _ _ _ _ | exact Kd.N_nil _ _ _ _ _ | exact Kd.V_nil _ _ _ _ _ | exact Kd.Q_nil _ _ _ _ _ | exact Kd.S_nil _ _ _ _ _, bB HB.out⟩
   ·replace c9 := Bool.eq_false_iff.mpr c9
    subst c9
    have H1 : (gain_Take.l0 kj3 l1 a2 ([] : List Int) 0 a0_0 a0_1 l0_2 a0_3) = some (r1, r2, r3, r4, r5, r6) := by rw [if_neg (show ¬ (false = true) by decide)] at H; exact H
    clear H
    have H := H1
    clear H1
    have H' := Am H
    clear H
    go_wp2
    go_loopg [9, 27] kj3 (fun kq v9 v27 w' => ∃ (x9_2 : List Int) (x27_2 : Int) (x340000_2 : Int) (x340001_2 : Int) (x340002_2 : List Int) (x340003_2 : Int) (u340002 : Value), v27 = .int .i64 x27_2 ∧ Aside0 (gain_Take.l0 kq l1 a2 x9_2 x27_2 x340000_2 x340001_2 x340002_2 x340003_2 = some (r1, r2, r3, r4, r5, r6)) ∧ Aside0 (kq ≤ kj3) ∧ Aside0 (Kd.R (Kd.int .i64) 3 w' w.heap.size (fun k_ => (w.heap.size ≤ k_)) v9 x9_2) ∧ Aside0 (Kd.V (Kd.int .u8) 5 w' w.heap.size (fun k_ => (P0_2_ k_ ∨ w.heap.size ≤ k_) ∧ some k_ ≠ (v9 : Value).ownBlock ∧ k_ ≠ gb339 ∧ k_ ≠ gb340) u340002 x340002_2) ∧ Aside0 (w'.heap[gb339]? = some (.cells #[.int .u64 x340000_2, .int .u32 x340001_2, u340002, .int .i64 x340003_2] 60 (0, 0))) ∧ Aside0 (w'.heap[gb340]? = some (.cells #[.int .u64 0, .int .u32 0, (.slice none 0 0), .int .i64 0] 60 (0, 0))) ∧ Aside0 (Below w.heap.size w w'))
    case atStart => exact ⟨(([] : List Int)), (0), (a0_0), (a0_1), (l0_2), (a0_3), (.slice A0_2 l0_2.length c0_2), rs_, H', ⟨Nat.le_refl _⟩, ⟨by first | exact Kd.R_nil _ _ _ _ _ | exact Kd.N_nil _ _ _ _ _ | exact Kd.V_nil _ _ _ _ _ | exact Kd.Q_nil _ _ _ _ _ | exact Kd.S_nil _ _ _ _ _⟩, ⟨by (with_reducible repeat (first | apply Kd.V_alloc | apply Kd.V_drewN | apply Kd.V_drew)); exact Kd.V_mono HO_340002.out (fun _ hk => ⟨hk.1, ⟨(by simp [Value.ownBlock]), ⟨hk.2.1, hk.2.2⟩⟩⟩)⟩, ⟨by (with_reducible repeat (first | refine blk_drewN ?_ _ | refine blk_drew ?_ | refine blk_alloc ?_ _)); exact BK339.out⟩, ⟨by (with_reducible repeat (first | refine blk_drewN ?_ _ | refine blk_drew ?_ | refine blk_alloc ?_ _)); exact BK340.out⟩, ⟨bB HB.out⟩⟩
    case round =>
     clear H'
     try clear c1
     try clear p2
     try clear c3
     try clear c7
     try clear c8
     try clear c9
     try clear c11
     try clear hcz12_0
     try clear hcz12_1
     try clear hcz12_2
     try clear hcz12_3
     try clear hcz14_0
     try clear hcz14_1
     try clear hcz14_2
     try clear hcz14_3
     try clear hcz16_0
     try clear hcz16_1
     try clear hcz16_2
     try clear hcz16_3
     try clear hfz12_0
     try clear hfz12_1
     try clear hfz12_2
     try clear hfz12_3
     try clear hfz14_0
     try clear hfz14_1
     try clear hfz14_2
     try clear hfz14_3
     try clear hfz16_0
     try clear hfz16_1
     try clear hfz16_2
     try clear hfz16_3
     try clear p2
     obtain ⟨x9_2, x27_2, x340000_2, x340001_2, x340002_2, x340003_2, u340002, rfl, HA, HK2, HO_9, HO_340002, BK339, BK340, HB⟩ := hrel
     cases gk with
     | zero => exact absurd HA.out (by simp [gain_Take.l0])
     | succ k2 =>
      have H := HA.out
      clear HA
      simp only [gain_Take.l0] at H
      by_cases c17 : x27_2 < 5
      ·rw [if_pos c17] at H
       have c17b0 : decide (x27_2 < 5) = true := decide_eq_true c17
       clear c17
       by_cases c18 : a2 = true
       ·subst c18
        have H1 : ((gain_take.f k2 x340000_2 x340001_2 x340002_2 x340003_2 0 true).bind fun bt349 => (if x9_2.length < 17592186044416 then (gain_Take.l0 k2 l1 true (x9_2 ++ [bt349.2.2.2.2]) (wrap64 (x27_2 + 1)) bt349.1 bt349.2.1 bt349.2.2.1 bt349.2.2.2.1) else (none))) = some (r1, r2, r3, r4, r5, r6) := by rw [if_pos rfl] at H; exact H
        clear H
        have H := H1
        clear H1
        replace H := Option.bind_eq_some_iff.mp H
        obtain ⟨⟨t349, t350, t351, t354, t355⟩, A190, H⟩ := H
        replace H : (if x9_2.length < 17592186044416 then (gain_Take.l0 k2 l1 true (x9_2 ++ [t355]) (wrap64 (x27_2 + 1)) t349 t350 t351 t354) else (none)) = some (r1, r2, r3, r4, r5, r6) := H
        have A19 := Am A190
        clear A190
        by_cases c20 : x9_2.length < 17592186044416
        ·rw [if_pos c20] at H
         have LMc20 := Am c20
         clear c20
         obtain ⟨y357, hy357⟩ : ∃ y_ : List Int, y_ = (x9_2 ++ [t355]) := ⟨_, rfl⟩
         replace H : (gain_Take.l0 k2 l1 true y357 (wrap64 (x27_2 + 1)) t349 t350 t351 t354) = some (r1, r2, r3, r4, r5, r6) := by first | (rw [hy357]; with_reducible exact H) | (have H2_ := (Option.bind_some _ _).symm.trans H; rw [hy357]; with_reducible exact H2_) | (have H2_ := (Option.bind_some _ _).symm.trans H; with_reducible exact H2_) | with_reducible exact H | (rw [hy357]; exact H) | exact H
         have Ny357 := Am hy357
         clear hy357
         have H' := Am H
         clear H
         have hnb21 := NB339_340.out
         have hnc21 := NB340_339.out
         have hcz22_0 : wr.cell? ⟨gb339, 0, none⟩ = some (.int .u64 x340000_2) := (blk_cell BK339.out 0).trans rfl
         have hcz22_1 : wr.cell? ⟨gb339, 1, none⟩ = some (.int .u32 x340001_2) := (blk_cell BK339.out 1).trans rfl
         have hcz22_2 : wr.cell? ⟨gb339, 2, none⟩ = some (u340002) := (blk_cell BK339.out 2).trans rfl
         have hcz22_3 : wr.cell? ⟨gb339, 3, none⟩ = some (.int .i64 x340003_2) := (blk_cell BK339.out 3).trans rfl
         have hfz22_0 := blk_frozen BK339.out 0
         have hfz22_1 := blk_frozen BK339.out 1
         have hfz22_2 := blk_frozen BK339.out 2
         have hfz22_3 := blk_frozen BK339.out 3
         obtain ⟨Ao23, co23, eo23⟩ := Kd.V_slice HO_340002.out
         subst eo23
         try go_wp2_with (first | ((with_reducible refine gate_callee (f := 89) rfl ?_); refine goesL_ (some 40) rfl rfl Try.func89 (by kernel_rfl) rfl #[.agg #[.int .u64 x340000_2, .int .u32 x340001_2, .slice Ao23 x340002_2.length co23, .int .i64 x340003_2], .int .i64 0, .bool true] rfl ls_ ?_; (with_reducible refine (gain_take.calls k2 x340000_2 x340001_2 (fun k_ => ((P0_2_ k_ ∨ w.heap.size ≤ k_) ∧ (some k_ ≠ (u9 : Value).ownBlock ∧ (k_ ≠ gb339 ∧ k_ ≠ gb340)))) _ _ x340002_2 x340003_2 0 true t349 t350 t351 t354 t355 _ ?side1 A19.out).mono ?_); (case side1 => exact HO_340002.out); rintro e w24 ⟨v352, rfl, ho0, hb⟩; refine ⟨_, rfl, ?_⟩; have n0_ := Am (Kd.R_below (kR HO_9.out) hb); have n1_ := Am (Kd.V_below (kV HO_340002.out) hb); have n2_ := Am (Kd.V_lower (Kd.V_mono (ok' := fun k_ => (P0_2_ k_ ∨ w.heap.size ≤ k_) ∧ some k_ ≠ (u9 : Value).ownBlock ∧ k_ ≠ gb339 ∧ k_ ≠ gb340) ho0 (fun k_ hk_ => ⟨Or.elim hk_ (fun hs_ => hs_.1) (fun hn_ => (.inr (Nat.le_trans (below_size (bB HB.out)) hn_))), Or.elim hk_ (fun hs_ => hs_.2.1) (fun hn_ => (Kd.fresh' (Kd.R_lt (kR HO_9.out)) k_ hn_)), Or.elim hk_ (fun hs_ => hs_.2.2.1) (fun hn_ => (Kd.freshB (g := gb339) (o := .cells #[.int .u64 x340000_2, .int .u32 x340001_2, .slice Ao23 x340002_2.length co23, .int .i64 x340003_2] 60 (0, 0)) (bK BK339.out) k_ hn_)), Or.elim hk_ (fun hs_ => hs_.2.2.2) (fun hn_ => (Kd.freshB (g := gb340) (o := .cells #[.int .u64 0, .int .u32 0, .slice none 0 0, .int .i64 0] 60 (0, 0)) (bK BK340.out) k_ hn_))⟩)) (below_size (bB HB.out))); have n3_ := Am (blk_below (g := gb339) (o := .cells #[.int .u64 x340000_2, .int .u32 x340001_2, .slice Ao23 x340002_2.length co23, .int .i64 x340003_2] 60 (0, 0)) (bK BK339.out) hb); have n4_ := Am (blk_below (g := gb340) (o := .cells #[.int .u64 0, .int .u32 0, .slice none 0 0, .int .i64 0] 60 (0, 0)) (bK BK340.out) hb); have n5_ := Am (below_step (bB HB.out) hb); clear HO_9; clear HO_340002; clear BK339; clear BK340; clear HB; have HO_9 := n0_; have HO_340002 := n1_; have HO353 := n2_; have BK339 := n3_; have BK340 := n4_; have HB := n5_; clear n0_ n1_ n2_ n3_ n4_ n5_; (try clear hb); (try clear hb2); (try clear hk); (try clear hi); (try clear ho0)) | ((with_reducible refine gate_dst (N := 12) rfl ?_); refine box_event ?hg (N := 12) ?hd (cs := #[.int .u64 0, .int .u32 0, .slice none 0 0, .int .i64 0]) (t := 60) ?hr ?_; (case hd => rfl); (case hg => rfl); (case hr => first | (go_simp; done) | (go_simp; rfl)); intro gb356 hg w25 hbox hb; have n0_ := Am (Kd.R_below (kR HO_9.out) hb); have n1_ := Am (Kd.V_below (Kd.V_elderB (kV HO_340002.out) gb356 (Nat.le_of_eq hg.symm)) hb); have n2_ := Am (Kd.V_below (Kd.V_elderB (kV HO353.out) gb356 (Nat.le_of_eq hg.symm)) hb); have n3_ := Am (blk_below (g := gb339) (o := .cells #[.int .u64 x340000_2, .int .u32 x340001_2, .slice Ao23 x340002_2.length co23, .int .i64 x340003_2] 60 (0, 0)) (bK BK339.out) hb); have n4_ := Am (blk_below (g := gb340) (o := .cells #[.int .u64 0, .int .u32 0, .slice none 0 0, .int .i64 0] 60 (0, 0)) (bK BK340.out) hb); have n5_ := Am (below_step (bB HB.out) hb); have n6_ := Am (hbox); have n7_ := Am ((by rw [hg]; exact (below_size (bB HB.out)) : w.heap.size ≤ gb356)); have n8_ := Am ((by rw [hg]; exact (below_size (bB HB.out)) : w.heap.size ≤ gb356)); have n9_ := Am ((by rw [hg]; exact Nat.ne_of_lt (blk_lt (g := gb339) (o := .cells #[.int .u64 x340000_2, .int .u32 x340001_2, .slice Ao23 x340002_2.length co23, .int .i64 x340003_2] 60 (0, 0)) (bK BK339.out)) : gb339 ≠ gb356)); have n10_ := Am ((by rw [hg]; exact Nat.ne_of_gt (blk_lt (g := gb339) (o := .cells #[.int .u64 x340000_2, .int .u32 x340001_2, .slice Ao23 x340002_2.length co23, .int .i64 x340003_2] 60 (0, 0)) (bK BK339.out)) : gb356 ≠ gb339)); have n11_ := Am ((by rw [hg]; exact Nat.ne_of_lt (blk_lt (g := gb340) (o := .cells #[.int .u64 0, .int .u32 0, .slice none 0 0, .int .i64 0] 60 (0, 0)) (bK BK340.out)) : gb340 ≠ gb356)); have n12_ := Am ((by rw [hg]; exact Nat.ne_of_gt (blk_lt (g := gb340) (o := .cells #[.int .u64 0, .int .u32 0, .slice none 0 0, .int .i64 0] 60 (0, 0)) (bK BK340.out)) : gb356 ≠ gb340)); clear HO_9; clear HO_340002; clear HO353; clear BK339; clear BK340; clear HB; have HO_9 := n0_; have HO_340002 := n1_; have HO353 := n2_; have BK339 := n3_; have BK340 := n4_; have HB := n5_; have BK356 := n6_; have GW356 := n7_; have GE356 := n8_; have NB339_356 := n9_; have NB356_339 := n10_; have NB340_356 := n11_; have NB356_340 := n12_; clear n0_ n1_ n2_ n3_ n4_ n5_ n6_ n7_ n8_ n9_ n10_ n11_ n12_; clear hb hbox hg; have hnb26 := NB356_339.out; have hnc26 := NB339_356.out; have hnb27 := NB356_340.out; have hnc27 := NB340_356.out; have hcz28_0 : w25.cell? ⟨gb356, 0, none⟩ = some (.int .u64 0) := (blk_cell BK356.out 0).trans rfl; have hcz28_1 : w25.cell? ⟨gb356, 1, none⟩ = some (.int .u32 0) := (blk_cell BK356.out 1).trans rfl; have hcz28_2 : w25.cell? ⟨gb356, 2, none⟩ = some (.slice none 0 0) := (blk_cell BK356.out 2).trans rfl; have hcz28_3 : w25.cell? ⟨gb356, 3, none⟩ = some (.int .i64 0) := (blk_cell BK356.out 3).trans rfl; have hfz28_0 := blk_frozen BK356.out 0; have hfz28_1 := blk_frozen BK356.out 1; have hfz28_2 := blk_frozen BK356.out 2; have hfz28_3 := blk_frozen BK356.out 3; obtain ⟨Ao29, co29, eo29⟩ := Kd.V_slice HO353.out; subst eo29))
         have n0_ : Aside0 (Kd.R (Kd.int .i64) 3 ((((w25.setCell ⟨gb356, 0, none⟩ (.int .u64 t349)).setCell ⟨gb356, 1, none⟩ (.int .u32 t350)).setCell ⟨gb356, 2, none⟩ (.slice Ao29 t351.length co29)).setCell ⟨gb356, 3, none⟩ (.int .i64 t354)) w.heap.size (fun k_ => (w.heap.size ≤ k_)) u9 x9_2) := ⟨by (with_reducible repeat (first | apply Kd.R_alloc | apply Kd.R_drewN | apply Kd.R_drew)); exact Kd.R_mono (Kd.R_far (p := ⟨gb356, 3, none⟩) (Kd.R_far (p := ⟨gb356, 2, none⟩) (Kd.R_far (p := ⟨gb356, 1, none⟩) (Kd.R_far (p := ⟨gb356, 0, none⟩) (Kd.R_types HO_9.out BK356.out (by decide)) (fun _ hk => hk.2) (.int .u64 t349)) (fun _ hk => hk.2) (.int .u32 t350)) (fun _ hk => hk.2) (.slice Ao29 t351.length co29)) (fun _ hk => hk.2) (.int .i64 t354)) (fun _ hk => hk.1)⟩
         have n1_ : Aside0 (Kd.V (Kd.int .u8) 5 ((((w25.setCell ⟨gb356, 0, none⟩ (.int .u64 t349)).setCell ⟨gb356, 1, none⟩ (.int .u32 t350)).setCell ⟨gb356, 2, none⟩ (.slice Ao29 t351.length co29)).setCell ⟨gb356, 3, none⟩ (.int .i64 t354)) w.heap.size (fun k_ => (P0_2_ k_ ∨ w.heap.size ≤ k_) ∧ some k_ ≠ (u9 : Value).ownBlock ∧ k_ ≠ gb339 ∧ k_ ≠ gb340 ∧ k_ ≠ gb356) (.slice Ao23 x340002_2.length co23) x340002_2) := ⟨by (with_reducible repeat (first | apply Kd.V_alloc | apply Kd.V_drewN | apply Kd.V_drew)); exact Kd.V_mono (Kd.V_far (p := ⟨gb356, 3, none⟩) (Kd.V_far (p := ⟨gb356, 2, none⟩) (Kd.V_far (p := ⟨gb356, 1, none⟩) (Kd.V_far (p := ⟨gb356, 0, none⟩) (Kd.V_mono HO_340002.out (fun k_ hk => (⟨hk, hk.2⟩ : _ ∧ k_ ≠ gb356))) (fun _ hk => hk.2) (.int .u64 t349)) (fun _ hk => hk.2) (.int .u32 t350)) (fun _ hk => hk.2) (.slice Ao29 t351.length co29)) (fun _ hk => hk.2) (.int .i64 t354)) (fun _ hk => ⟨hk.1.1.1, ⟨hk.1.1.2.1, ⟨hk.1.1.2.2.1, ⟨hk.1.1.2.2.2, hk.1.2⟩⟩⟩⟩)⟩
         have n2_ : Aside0 (Kd.V (Kd.int .u8) 5 ((((w25.setCell ⟨gb356, 0, none⟩ (.int .u64 t349)).setCell ⟨gb356, 1, none⟩ (.int .u32 t350)).setCell ⟨gb356, 2, none⟩ (.slice Ao29 t351.length co29)).setCell ⟨gb356, 3, none⟩ (.int .i64 t354)) w.heap.size (fun k_ => (P0_2_ k_ ∨ w.heap.size ≤ k_) ∧ some k_ ≠ (u9 : Value).ownBlock ∧ k_ ≠ gb339 ∧ k_ ≠ gb340 ∧ k_ ≠ gb356) (.slice Ao29 t351.length co29) t351) := ⟨by (with_reducible repeat (first | apply Kd.V_alloc | apply Kd.V_drewN | apply Kd.V_drew)); exact Kd.V_mono (Kd.V_far (p := ⟨gb356, 3, none⟩) (Kd.V_far (p := ⟨gb356, 2, none⟩) (Kd.V_far (p := ⟨gb356, 1, none⟩) (Kd.V_far (p := ⟨gb356, 0, none⟩) (Kd.V_mono HO353.out (fun k_ hk => (⟨hk, hk.2⟩ : _ ∧ k_ ≠ gb356))) (fun _ hk => hk.2) (.int .u64 t349)) (fun _ hk => hk.2) (.int .u32 t350)) (fun _ hk => hk.2) (.slice Ao29 t351.length co29)) (fun _ hk => hk.2) (.int .i64 t354)) (fun _ hk => ⟨hk.1.1.1, ⟨hk.1.1.2.1, ⟨hk.1.1.2.2.1, ⟨hk.1.1.2.2.2, hk.1.2⟩⟩⟩⟩)⟩
         have n3_ : Aside0 (((((w25.setCell ⟨gb356, 0, none⟩ (.int .u64 t349)).setCell ⟨gb356, 1, none⟩ (.int .u32 t350)).setCell ⟨gb356, 2, none⟩ (.slice Ao29 t351.length co29)).setCell ⟨gb356, 3, none⟩ (.int .i64 t354)).heap[gb339]? = some (.cells #[.int .u64 x340000_2, .int .u32 x340001_2, .slice Ao23 x340002_2.length co23, .int .i64 x340003_2] 60 (0, 0))) := ⟨by (with_reducible repeat (first | refine blk_drewN ?_ _ | refine blk_drew ?_ | refine blk_alloc ?_ _)); refine blk_far ?_ NB339_356.out _; (with_reducible repeat (first | refine blk_drewN ?_ _ | refine blk_drew ?_ | refine blk_alloc ?_ _)); refine blk_far ?_ NB339_356.out _; (with_reducible repeat (first | refine blk_drewN ?_ _ | refine blk_drew ?_ | refine blk_alloc ?_ _)); refine blk_far ?_ NB339_356.out _; (with_reducible repeat (first | refine blk_drewN ?_ _ | refine blk_drew ?_ | refine blk_alloc ?_ _)); refine blk_far ?_ NB339_356.out _; (with_reducible repeat (first | refine blk_drewN ?_ _ | refine blk_drew ?_ | refine blk_alloc ?_ _)); exact BK339.out⟩
         have n4_ : Aside0 (((((w25.setCell ⟨gb356, 0, none⟩ (.int .u64 t349)).setCell ⟨gb356, 1, none⟩ (.int .u32 t350)).setCell ⟨gb356, 2, none⟩ (.slice Ao29 t351.length co29)).setCell ⟨gb356, 3, none⟩ (.int .i64 t354)).heap[gb340]? = some (.cells #[.int .u64 0, .int .u32 0, .slice none 0 0, .int .i64 0] 60 (0, 0))) := ⟨by (with_reducible repeat (first | refine blk_drewN ?_ _ | refine blk_drew ?_ | refine blk_alloc ?_ _)); refine blk_far ?_ NB340_356.out _; (with_reducible repeat (first | refine blk_drewN ?_ _ | refine blk_drew ?_ | refine blk_alloc ?_ _)); refine blk_far ?_ NB340_356.out _; (with_reducible repeat (first | refine blk_drewN ?_ _ | refine blk_drew ?_ | refine blk_alloc ?_ _)); refine blk_far ?_ NB340_356.out _; (with_reducible repeat (first | refine blk_drewN ?_ _ | refine blk_drew ?_ | refine blk_alloc ?_ _)); refine blk_far ?_ NB340_356.out _; (with_reducible repeat (first | refine blk_drewN ?_ _ | refine blk_drew ?_ | refine blk_alloc ?_ _)); exact BK340.out⟩
         have n5_ : Aside0 (((((w25.setCell ⟨gb356, 0, none⟩ (.int .u64 t349)).setCell ⟨gb356, 1, none⟩ (.int .u32 t350)).setCell ⟨gb356, 2, none⟩ (.slice Ao29 t351.length co29)).setCell ⟨gb356, 3, none⟩ (.int .i64 t354)).heap[gb356]? = some (.cells #[.int .u64 t349, .int .u32 t350, .slice Ao29 t351.length co29, .int .i64 t354] 60 (0, 0))) := ⟨by (with_reducible repeat (first | refine blk_drewN ?_ _ | refine blk_drew ?_ | refine blk_alloc ?_ _)); refine blk_put (cs := #[.int .u64 t349, .int .u32 t350, .slice Ao29 t351.length co29, .int .i64 0]) ?_ 3 _ rfl; (with_reducible repeat (first | refine blk_drewN ?_ _ | refine blk_drew ?_ | refine blk_alloc ?_ _)); refine blk_put (cs := #[.int .u64 t349, .int .u32 t350, .slice none 0 0, .int .i64 0]) ?_ 2 _ rfl; (with_reducible repeat (first | refine blk_drewN ?_ _ | refine blk_drew ?_ | refine blk_alloc ?_ _)); refine blk_put (cs := #[.int .u64 t349, .int .u32 0, .slice none 0 0, .int .i64 0]) ?_ 1 _ rfl; (with_reducible repeat (first | refine blk_drewN ?_ _ | refine blk_drew ?_ | refine blk_alloc ?_ _)); refine blk_put (cs := #[.int .u64 0, .int .u32 0, .slice none 0 0, .int .i64 0]) ?_ 0 _ rfl; (with_reducible repeat (first | refine blk_drewN ?_ _ | refine blk_drew ?_ | refine blk_alloc ?_ _)); exact BK356.out⟩
         have n6_ : Aside0 (Below w.heap.size w ((((w25.setCell ⟨gb356, 0, none⟩ (.int .u64 t349)).setCell ⟨gb356, 1, none⟩ (.int .u32 t350)).setCell ⟨gb356, 2, none⟩ (.slice Ao29 t351.length co29)).setCell ⟨gb356, 3, none⟩ (.int .i64 t354))) := ⟨bB HB.out⟩
         (try clear HO_9)
         (try clear HO_340002)
         (try clear HO353)
         (try clear BK339)
         (try clear BK340)
         (try clear BK356)
         (try clear HB)
         generalize ((((w25.setCell ⟨gb356, 0, none⟩ (.int .u64 t349)).setCell ⟨gb356, 1, none⟩ (.int .u32 t350)).setCell ⟨gb356, 2, none⟩ (.slice Ao29 t351.length co29)).setCell ⟨gb356, 3, none⟩ (.int .i64 t354)) = w30 at n0_ n1_ n2_ n3_ n4_ n5_ n6_ ⊢
         have HO_9 := n0_
         have HO_340002 := n1_
         have HO353 := n2_
         have BK339 := n3_
         have BK340 := n4_
         have BK356 := n5_
         have HB := n6_
         clear n0_ n1_ n2_ n3_ n4_ n5_ n6_
         have n0_ := Am (Kd.R_drew HO_9.out)
         have n1_ := Am (Kd.V_drew HO_340002.out)
         have n2_ := Am (Kd.V_drew HO353.out)
         have n3_ := Am (blk_drew BK339.out)
         have n4_ := Am (blk_drew BK340.out)
         have n5_ := Am (blk_drew BK356.out)
         have n6_ := Am (below_drew1 HB.out)
         clear HO_9
         clear HO_340002
         clear HO353
         clear BK339
         clear BK340
         clear BK356
         clear HB
         have HO_9 := n0_
         have HO_340002 := n1_
         have HO353 := n2_
         have BK339 := n3_
         have BK340 := n4_
         have BK356 := n5_
         have HB := n6_
         clear n0_ n1_ n2_ n3_ n4_ n5_ n6_
         refine start_ (n := 7) (S := fun w' => w'.cell? ⟨gb356, 0, none⟩ = some (.int .u64 t349) ∧ w'.cell? ⟨gb356, 1, none⟩ = some (.int .u32 t350) ∧ w'.cell? ⟨gb356, 2, none⟩ = some (.slice Ao29 t351.length co29) ∧ w'.cell? ⟨gb356, 3, none⟩ = some (.int .i64 t354)) (ds := []) #[false, false, false, false, false, false, false] (by kernel_rfl) rfl rfl ⟨(blk_cell BK356.out 0).trans rfl, (blk_cell BK356.out 1).trans rfl, (blk_cell BK356.out 2).trans rfl, (blk_cell BK356.out 3).trans rfl⟩ (fun hHeld => ?_)
         generalize w30.drew = w31 at HO_9 HO_340002 HO353 BK339 BK340 BK356 HB hHeld ⊢
         refine pure_ (i := 1) (N := some 44) (v := ?_) (a' := ?_) #[false, true, false, false, false, false, false] rfl rfl (by kernel_rfl) (fun _ _ _ h => h) (Or.inl ⟨by rfl, ?_⟩) ?_ ?_
         rotate_left
         ·intro w'
          go_simp
          with_reducible rfl
         rotate_left
         ·simp only [Act.put, List.setIfInBounds_toArray, List.set_cons_zero, List.set_cons_succ, i64_w, i32_w]
          rfl
         refine pure_ (i := 2) (N := some 45) (v := ?_) (a' := ?_) #[false, true, true, false, false, false, false] rfl rfl (by kernel_rfl) (fun _ _ _ h => h) (Or.inl ⟨by rfl, ?_⟩) ?_ ?_
         rotate_left
         ·intro w'
          go_simp
          with_reducible rfl
         rotate_left
         ·simp only [Act.put, List.setIfInBounds_toArray, List.set_cons_zero, List.set_cons_succ, i64_w, i32_w]
          rfl
         refine take_ (i := 0) (N := some 43) (v := ?_) (a' := ?_) #[true, true, true, false, false, false, false] rfl rfl (by kernel_rfl) (fun _ _ _ h => h) (Or.inl ⟨by rfl, ?_⟩) hHeld ?_ ?_
         rotate_left
         ·rintro w' ⟨s0, s1, s2, s3⟩
          go_simp
          with_reducible rfl
         rotate_left
         ·simp only [Act.put, List.setIfInBounds_toArray, List.set_cons_zero, List.set_cons_succ, i64_w, i32_w]
          rfl
         refine one_ (i := 3) (N := some 46) #[true, true, true, true, false, false, false] rfl rfl (by kernel_rfl) (by decide) (fun K hK => ?_)
         refine value_ (w1 := ?_) (v := ?_) (by rfl) rfl ?_ ?_
         rotate_left 2
         ·go_simp
          constructor
          ·rfl
          ·rfl
         refine hK.out _ _ ⟨(blk_cell (blk_alloc BK356.out _) 0).trans rfl, (blk_cell (blk_alloc BK356.out _) 1).trans rfl, (blk_cell (blk_alloc BK356.out _) 2).trans rfl, (blk_cell (blk_alloc BK356.out _) 3).trans rfl⟩ (fun hHeld => ?_)
         clear hK K
         refine norm_ (a' := ?_) ?_ ?_
         rotate_left
         ·show Act.put _ (some 46) _ = _
          simp only [Act.put, List.setIfInBounds_toArray, List.set_cons_zero, List.set_cons_succ, i64_w, i32_w]
          rfl
         refine one_ (i := 4) (N := some 47) #[true, true, true, true, true, false, false] rfl rfl (by kernel_rfl) (by decide) (fun K hK => ?_)
         refine Kd.R_append_step (Kd.int .i64) (w0 := w) w.heap.size (by rfl) (.tmp 44) (.tmp 46) 54 3 (.int .i64 0) 8 rfl Try.underlying54 info3 rfl (by decide) (by omega) u9 x9_2 t355 [.int .i64 t355] (fun k_ => (w.heap.size ≤ k_)) (fun _ => False) rfl rfl ?aP (fun _ hk => hk.elim) ?aF ?aO ?aB ?aS ?aL ?_
         (case aP => exact rfl)
         (case aB => exact (bB HB.out))
         (case aF => exact (fun k_ hk => (Nat.le_trans (below_size (bB HB.out)) hk)))
         (case aO => exact (kR HO_9.out))
         (case aS => exact (below_size (bB HB.out)))
         (case aL => have := LMc20.out; omega)
         intro v358 w32 ho hb hg hat
         rw [← Ny357.out] at ho
         have n0_ := Am (Kd.V_afterv (ok := (fun k_ => (P0_2_ k_ ∨ w.heap.size ≤ k_) ∧ k_ ≠ gb339 ∧ k_ ≠ gb340 ∧ k_ ≠ gb356)) (by (with_reducible repeat (first | apply Kd.V_alloc | apply Kd.V_drewN | apply Kd.V_drew)); exact Kd.V_mono HO_340002.out (fun _ hk => ⟨⟨hk.1, ⟨hk.2.2.1, ⟨hk.2.2.2.1, hk.2.2.2.2⟩⟩⟩, hk.2.1⟩)) hg hat)
         have n1_ := Am (blk_grown (g := gb339) (o := .cells #[.int .u64 x340000_2, .int .u32 x340001_2, .slice Ao23 x340002_2.length co23, .int .i64 x340003_2] 60 (0, 0)) (bK BK339.out) hg (Kd.R_ne HO_9.out BK339.out (by decide)))
         have n2_ := Am (blk_grown (g := gb340) (o := .cells #[.int .u64 0, .int .u32 0, .slice none 0 0, .int .i64 0] 60 (0, 0)) (bK BK340.out) hg (Kd.R_ne HO_9.out BK340.out (by decide)))
         have n3_ := Am (Kd.V_afterv (ok := (fun k_ => (P0_2_ k_ ∨ w.heap.size ≤ k_) ∧ k_ ≠ gb339 ∧ k_ ≠ gb340 ∧ k_ ≠ gb356)) (by (with_reducible repeat (first | apply Kd.V_alloc | apply Kd.V_drewN | apply Kd.V_drew)); exact Kd.V_mono HO353.out (fun _ hk => ⟨⟨hk.1, ⟨hk.2.2.1, ⟨hk.2.2.2.1, hk.2.2.2.2⟩⟩⟩, hk.2.1⟩)) hg hat)
         have n4_ := Am (blk_grown (g := gb356) (o := .cells #[.int .u64 t349, .int .u32 t350, .slice Ao29 t351.length co29, .int .i64 t354] 60 (0, 0)) (bK BK356.out) hg (Kd.R_ne HO_9.out BK356.out (by decide)))
         have n5_ := Am (hb)
         have n6_ := Am (ho)
         clear HO_340002
         clear BK339
         clear BK340
         clear HO353
         clear BK356
         clear HB
         clear HO_9
         have HO_340002 := n0_
         have BK339 := n1_
         have BK340 := n2_
         have HO353 := n3_
         have BK356 := n4_
         have HB := n5_
         have HO359 := n6_
         clear n0_ n1_ n2_ n3_ n4_ n5_ n6_
         clear ho hb hg hat
         refine hK.out _ _ ⟨(blk_cell BK356.out 0).trans rfl, (blk_cell BK356.out 1).trans rfl, (blk_cell BK356.out 2).trans rfl, (blk_cell BK356.out 3).trans rfl⟩ (fun hHeld => ?_)
         clear hK K
         refine norm_ (a' := ?_) ?_ ?_
         rotate_left
         ·show Act.put _ (some 47) _ = _
          simp only [Act.put, List.setIfInBounds_toArray, List.set_cons_zero, List.set_cons_succ, i64_w, i32_w]
          rfl
         refine one_ (i := 5) (N := none) #[true, true, true, true, true, true, false] rfl rfl (by kernel_rfl) (by decide) (fun K hK => ?_)
         have hs33 : w32.cell? ⟨gb339, 0, none⟩ = some (.int .u64 x340000_2) := (blk_cell BK339.out 0).trans rfl
         have hfs33 := blk_frozen BK339.out 0
         have hns33_1 := NB340_339.out
         have hns33_2 := NB356_339.out
         have hms33_1 := NB339_340.out
         have hms33_2 := NB339_356.out
         have hs34 : w32.cell? ⟨gb339, 1, none⟩ = some (.int .u32 x340001_2) := (blk_cell BK339.out 1).trans rfl
         have hfs34 := blk_frozen BK339.out 1
         have hns34_1 := NB340_339.out
         have hns34_2 := NB356_339.out
         have hms34_1 := NB339_340.out
         have hms34_2 := NB339_356.out
         have hs35 : w32.cell? ⟨gb339, 2, none⟩ = some (.slice Ao23 x340002_2.length co23) := (blk_cell BK339.out 2).trans rfl
         have hfs35 := blk_frozen BK339.out 2
         have hns35_1 := NB340_339.out
         have hns35_2 := NB356_339.out
         have hms35_1 := NB339_340.out
         have hms35_2 := NB339_356.out
         have hs36 : w32.cell? ⟨gb339, 3, none⟩ = some (.int .i64 x340003_2) := (blk_cell BK339.out 3).trans rfl
         have hfs36 := blk_frozen BK339.out 3
         have hns36_1 := NB340_339.out
         have hns36_2 := NB356_339.out
         have hms36_1 := NB339_340.out
         have hms36_2 := NB339_356.out
         refine skip_ (w1 := ?_) (by rfl) rfl ?_ ?_
         rotate_left
         ·go_simp
          rfl
         refine hK.out _ _ ⟨((cell_far (p := ⟨gb339, _, none⟩) NB356_339.out _).trans (((cell_far (p := ⟨gb339, _, none⟩) NB356_339.out _).trans (((cell_far (p := ⟨gb339, _, none⟩) NB356_339.out _).trans (((cell_far (p := ⟨gb339, _, none⟩) NB356_339.out _).trans (hHeld.1)))))))), ((cell_far (p := ⟨gb339, _, none⟩) NB356_339.out _).trans (((cell_far (p := ⟨gb339, _, none⟩) NB356_339.out _).trans (((cell_far (p := ⟨gb339, _, none⟩) NB356_339.out _).trans (((cell_far (p := ⟨gb339, _, none⟩) NB356_339.out _).trans (hHeld.2.1)))))))), ((cell_far (p := ⟨gb339, _, none⟩) NB356_339.out _).trans (((cell_far (p := ⟨gb339, _, none⟩) NB356_339.out _).trans (((cell_far (p := ⟨gb339, _, none⟩) NB356_339.out _).trans (((cell_far (p := ⟨gb339, _, none⟩) NB356_339.out _).trans (hHeld.2.2.1)))))))), ((cell_far (p := ⟨gb339, _, none⟩) NB356_339.out _).trans (((cell_far (p := ⟨gb339, _, none⟩) NB356_339.out _).trans (((cell_far (p := ⟨gb339, _, none⟩) NB356_339.out _).trans (((cell_far (p := ⟨gb339, _, none⟩) NB356_339.out _).trans (hHeld.2.2.2))))))))⟩ (fun hHeld => ?_)
         clear hK K
         refine pure_ (i := 6) (N := some 9) (v := ?_) (a' := ?_) #[true, true, true, true, true, true, true] rfl rfl (by kernel_rfl) (fun _ _ _ h => h) (Or.inl ⟨by rfl, ?_⟩) ?_ ?_
         rotate_left
         ·intro w'
          go_simp
          with_reducible rfl
         rotate_left
         ·simp only [Act.put, List.setIfInBounds_toArray, List.set_cons_zero, List.set_cons_succ, i64_w, i32_w]
          rfl
         refine done_ (by kernel_rfl) ?_
         try go_wp2
         go_roundg k2
         case measure => have := HJ3.out; have := HK2.out; omega
         case rel => exact ⟨(y357), (wrap64 (x27_2 + 1)), (t349), (t350), (t351), (t354), (.slice Ao29 t351.length co29), rs_, H', ⟨by have := HJ3.out; have := HK2.out; omega⟩, ⟨by (with_reducible repeat (first | apply Kd.R_alloc | apply Kd.R_drewN | apply Kd.R_drew)); exact Kd.R_mono (Kd.R_far (p := ⟨gb339, 3, none⟩) (Kd.R_far (p := ⟨gb339, 2, none⟩) (Kd.R_far (p := ⟨gb339, 1, none⟩) (Kd.R_far (p := ⟨gb339, 0, none⟩) (Kd.R_types HO359.out BK339.out (by decide)) (fun _ hk => hk.2) (.int .u64 t349)) (fun _ hk => hk.2) (.int .u32 t350)) (fun _ hk => hk.2) (.slice Ao29 t351.length co29)) (fun _ hk => hk.2) (.int .i64 t354)) (fun _ hk => hk.1)⟩, ⟨by (with_reducible repeat (first | apply Kd.V_alloc | apply Kd.V_drewN | apply Kd.V_drew)); exact Kd.V_mono (Kd.V_far (p := ⟨gb339, 3, none⟩) (Kd.V_far (p := ⟨gb339, 2, none⟩) (Kd.V_far (p := ⟨gb339, 1, none⟩) (Kd.V_far (p := ⟨gb339, 0, none⟩) (Kd.V_mono HO353.out (fun k_ hk => (⟨hk, hk.1.2.1⟩ : _ ∧ k_ ≠ gb339))) (fun _ hk => hk.2) (.int .u64 t349)) (fun _ hk => hk.2) (.int .u32 t350)) (fun _ hk => hk.2) (.slice Ao29 t351.length co29)) (fun _ hk => hk.2) (.int .i64 t354)) (fun _ hk => ⟨hk.1.1.1, ⟨hk.1.2, ⟨hk.1.1.2.1, hk.1.1.2.2.1⟩⟩⟩)⟩, ⟨by (with_reducible repeat (first | refine blk_drewN ?_ _ | refine blk_drew ?_ | refine blk_alloc ?_ _)); refine blk_put (cs := #[.int .u64 t349, .int .u32 t350, .slice Ao29 t351.length co29, .int .i64 x340003_2]) ?_ 3 _ rfl; (with_reducible repeat (first | refine blk_drewN ?_ _ | refine blk_drew ?_ | refine blk_alloc ?_ _)); refine blk_put (cs := #[.int .u64 t349, .int .u32 t350, .slice Ao23 x340002_2.length co23, .int .i64 x340003_2]) ?_ 2 _ rfl; (with_reducible repeat (first | refine blk_drewN ?_ _ | refine blk_drew ?_ | refine blk_alloc ?_ _)); refine blk_put (cs := #[.int .u64 t349, .int .u32 x340001_2, .slice Ao23 x340002_2.length co23, .int .i64 x340003_2]) ?_ 1 _ rfl; (with_reducible repeat (first | refine blk_drewN ?_ _ | refine blk_drew ?_ | refine blk_alloc ?_ _)); refine blk_put (cs := #[.int .u64 x340000_2, .int .u32 x340001_2, .slice Ao23 x340002_2.length co23, .int .i64 x340003_2]) ?_ 0 _ rfl; (with_reducible repeat (first | refine blk_drewN ?_ _ | refine blk_drew ?_ | refine blk_alloc ?_ _)); exact BK339.out⟩, ⟨by (with_reducible repeat (first | refine blk_drewN ?_ _ | refine blk_drew ?_ | refine blk_alloc ?_ _)); refine blk_far ?_ NB340_339.out _; (with_reducible repeat (first | refine blk_drewN ?_ _ | refine blk_drew ?_ | refine blk_alloc ?_ _)); refine blk_far ?_ NB340_339.out _; (with_reducible repeat (first | refine blk_drewN ?_ _ | refine blk_drew ?_ | refine blk_alloc ?_ _)); refine blk_far ?_ NB340_339.out _; (with_reducible repeat (first | refine blk_drewN ?_ _ | refine blk_drew ?_ | refine blk_alloc ?_ _)); refine blk_far ?_ NB340_339.out _; (with_reducible repeat (first | refine blk_drewN ?_ _ | refine blk_drew ?_ | refine blk_alloc ?_ _)); exact BK340.out⟩, ⟨bB HB.out⟩⟩
        ·rw [if_neg c20] at H
         exact absurd H (by simp)
       ·replace c18 := Bool.eq_false_iff.mpr c18
        subst c18
        have H1 : (if 0 ≤ x27_2 then (if x27_2 < (l1.length : Int) then ((gain_take.f k2 x340000_2 x340001_2 x340002_2 x340003_2 (rd l1 x27_2) false).bind fun bt361 => (if x9_2.length < 17592186044416 then (gain_Take.l0 k2 l1 false (x9_2 ++ [bt361.2.2.2.2]) (wrap64 (x27_2 + 1)) bt361.1 bt361.2.1 bt361.2.2.1 bt361.2.2.2.1) else (none))) else (none)) else (none)) = some (r1, r2, r3, r4, r5, r6) := by rw [if_neg (show ¬ (false = true) by decide)] at H; exact H
        clear H
        have H := H1
        clear H1
        by_cases c37 : 0 ≤ x27_2
        ·rw [if_pos c37] at H
         have c37b0 : decide (0 ≤ x27_2) = true := decide_eq_true c37
         clear c37
         by_cases c38 : x27_2 < (l1.length : Int)
         ·rw [if_pos c38] at H
          have c38b0 : decide (x27_2 < (l1.length : Int)) = true := decide_eq_true c38
          clear c38
          replace H := Option.bind_eq_some_iff.mp H
          obtain ⟨⟨t361, t362, t363, t366, t367⟩, A390, H⟩ := H
          replace H : (if x9_2.length < 17592186044416 then (gain_Take.l0 k2 l1 false (x9_2 ++ [t367]) (wrap64 (x27_2 + 1)) t361 t362 t363 t366) else (none)) = some (r1, r2, r3, r4, r5, r6) := H
          have A39 := Am A390
          clear A390
          by_cases c40 : x9_2.length < 17592186044416
          ·rw [if_pos c40] at H
           have LMc40 := Am c40
           clear c40
           obtain ⟨y369, hy369⟩ : ∃ y_ : List Int, y_ = (x9_2 ++ [t367]) := ⟨_, rfl⟩
           replace H : (gain_Take.l0 k2 l1 false y369 (wrap64 (x27_2 + 1)) t361 t362 t363 t366) = some (r1, r2, r3, r4, r5, r6) := by first | (rw [hy369]; with_reducible exact H) | (have H2_ := (Option.bind_some _ _).symm.trans H; rw [hy369]; with_reducible exact H2_) | (have H2_ := (Option.bind_some _ _).symm.trans H; with_reducible exact H2_) | with_reducible exact H | (rw [hy369]; exact H) | exact H
           have Ny369 := Am hy369
           clear hy369
           have H' := Am H
           clear H
           have p360 : 0 ≤ (x27_2 : Int) := of_decide_eq_true as_
           have q360 : x27_2 < (l1.length : Int) := of_decide_eq_true as_
           obtain ⟨ad360, e360, hx360_0⟩ := Kd.at_int HR1.out x27_2 p360 q360
           cases e360
           replace hx360_0 := (HB.out.cell (World.block_lt_of_cell? w _ hx360_0)).trans hx360_0
           replace p360 := eq_true p360
           replace q360 := eq_true q360
           have hnb41 := NB339_340.out
           have hnc41 := NB340_339.out
           have hcz42_0 : wr.cell? ⟨gb339, 0, none⟩ = some (.int .u64 x340000_2) := (blk_cell BK339.out 0).trans rfl
           have hcz42_1 : wr.cell? ⟨gb339, 1, none⟩ = some (.int .u32 x340001_2) := (blk_cell BK339.out 1).trans rfl
           have hcz42_2 : wr.cell? ⟨gb339, 2, none⟩ = some (u340002) := (blk_cell BK339.out 2).trans rfl
           have hcz42_3 : wr.cell? ⟨gb339, 3, none⟩ = some (.int .i64 x340003_2) := (blk_cell BK339.out 3).trans rfl
           have hfz42_0 := blk_frozen BK339.out 0
           have hfz42_1 := blk_frozen BK339.out 1
           have hfz42_2 := blk_frozen BK339.out 2
           have hfz42_3 := blk_frozen BK339.out 3
           obtain ⟨Ao43, co43, eo43⟩ := Kd.V_slice HO_340002.out
           subst eo43
           try go_wp2_with (first | ((with_reducible refine gate_callee (f := 89) rfl ?_); refine goesL_ (some 40) rfl rfl Try.func89 (by kernel_rfl) rfl #[.agg #[.int .u64 x340000_2, .int .u32 x340001_2, .slice Ao43 x340002_2.length co43, .int .i64 x340003_2], .int .i64 (rd l1 x27_2), .bool false] rfl ls_ ?_; (with_reducible refine (gain_take.calls k2 x340000_2 x340001_2 (fun k_ => ((P0_2_ k_ ∨ w.heap.size ≤ k_) ∧ (some k_ ≠ (u9 : Value).ownBlock ∧ (k_ ≠ gb339 ∧ k_ ≠ gb340)))) _ _ x340002_2 x340003_2 (rd l1 x27_2) false t361 t362 t363 t366 t367 _ ?side1 A39.out).mono ?_); (case side1 => exact HO_340002.out); rintro e w44 ⟨v364, rfl, ho0, hb⟩; refine ⟨_, rfl, ?_⟩; have n0_ := Am (Kd.R_below (kR HO_9.out) hb); have n1_ := Am (Kd.V_below (kV HO_340002.out) hb); have n2_ := Am (Kd.V_lower (Kd.V_mono (ok' := fun k_ => (P0_2_ k_ ∨ w.heap.size ≤ k_) ∧ some k_ ≠ (u9 : Value).ownBlock ∧ k_ ≠ gb339 ∧ k_ ≠ gb340) ho0 (fun k_ hk_ => ⟨Or.elim hk_ (fun hs_ => hs_.1) (fun hn_ => (.inr (Nat.le_trans (below_size (bB HB.out)) hn_))), Or.elim hk_ (fun hs_ => hs_.2.1) (fun hn_ => (Kd.fresh' (Kd.R_lt (kR HO_9.out)) k_ hn_)), Or.elim hk_ (fun hs_ => hs_.2.2.1) (fun hn_ => (Kd.freshB (g := gb339) (o := .cells #[.int .u64 x340000_2, .int .u32 x340001_2, .slice Ao43 x340002_2.length co43, .int .i64 x340003_2] 60 (0, 0)) (bK BK339.out) k_ hn_)), Or.elim hk_ (fun hs_ => hs_.2.2.2) (fun hn_ => (Kd.freshB (g := gb340) (o := .cells #[.int .u64 0, .int .u32 0, .slice none 0 0, .int .i64 0] 60 (0, 0)) (bK BK340.out) k_ hn_))⟩)) (below_size (bB HB.out))); have n3_ := Am (blk_below (g := gb339) (o := .cells #[.int .u64 x340000_2, .int .u32 x340001_2, .slice Ao43 x340002_2.length co43, .int .i64 x340003_2] 60 (0, 0)) (bK BK339.out) hb); have n4_ := Am (blk_below (g := gb340) (o := .cells #[.int .u64 0, .int .u32 0, .slice none 0 0, .int .i64 0] 60 (0, 0)) (bK BK340.out) hb); have n5_ := Am (below_step (bB HB.out) hb); clear HO_9; clear HO_340002; clear BK339; clear BK340; clear HB; have HO_9 := n0_; have HO_340002 := n1_; have HO365 := n2_; have BK339 := n3_; have BK340 := n4_; have HB := n5_; clear n0_ n1_ n2_ n3_ n4_ n5_; (try clear hb); (try clear hb2); (try clear hk); (try clear hi); (try clear ho0)) | ((with_reducible refine gate_dst (N := 12) rfl ?_); refine box_event ?hg (N := 12) ?hd (cs := #[.int .u64 0, .int .u32 0, .slice none 0 0, .int .i64 0]) (t := 60) ?hr ?_; (case hd => rfl); (case hg => rfl); (case hr => first | (go_simp; done) | (go_simp; rfl)); intro gb368 hg w45 hbox hb; have n0_ := Am (Kd.R_below (kR HO_9.out) hb); have n1_ := Am (Kd.V_below (Kd.V_elderB (kV HO_340002.out) gb368 (Nat.le_of_eq hg.symm)) hb); have n2_ := Am (Kd.V_below (Kd.V_elderB (kV HO365.out) gb368 (Nat.le_of_eq hg.symm)) hb); have n3_ := Am (blk_below (g := gb339) (o := .cells #[.int .u64 x340000_2, .int .u32 x340001_2, .slice Ao43 x340002_2.length co43, .int .i64 x340003_2] 60 (0, 0)) (bK BK339.out) hb); have n4_ := Am (blk_below (g := gb340) (o := .cells #[.int .u64 0, .int .u32 0, .slice none 0 0, .int .i64 0] 60 (0, 0)) (bK BK340.out) hb); have n5_ := Am (below_step (bB HB.out) hb); have n6_ := Am (hbox); have n7_ := Am ((by rw [hg]; exact (below_size (bB HB.out)) : w.heap.size ≤ gb368)); have n8_ := Am ((by rw [hg]; exact (below_size (bB HB.out)) : w.heap.size ≤ gb368)); have n9_ := Am ((by rw [hg]; exact Nat.ne_of_lt (blk_lt (g := gb339) (o := .cells #[.int .u64 x340000_2, .int .u32 x340001_2, .slice Ao43 x340002_2.length co43, .int .i64 x340003_2] 60 (0, 0)) (bK BK339.out)) : gb339 ≠ gb368)); have n10_ := Am ((by rw [hg]; exact Nat.ne_of_gt (blk_lt (g := gb339) (o := .cells #[.int .u64 x340000_2, .int .u32 x340001_2, .slice Ao43 x340002_2.length co43, .int .i64 x340003_2] 60 (0, 0)) (bK BK339.out)) : gb368 ≠ gb339)); have n11_ := Am ((by rw [hg]; exact Nat.ne_of_lt (blk_lt (g := gb340) (o := .cells #[.int .u64 0, .int .u32 0, .slice none 0 0, .int .i64 0] 60 (0, 0)) (bK BK340.out)) : gb340 ≠ gb368)); have n12_ := Am ((by rw [hg]; exact Nat.ne_of_gt (blk_lt (g := gb340) (o := .cells #[.int .u64 0, .int .u32 0, .slice none 0 0, .int .i64 0] 60 (0, 0)) (bK BK340.out)) : gb368 ≠ gb340)); clear HO_9; clear HO_340002; clear HO365; clear BK339; clear BK340; clear HB; have HO_9 := n0_; have HO_340002 := n1_; have HO365 := n2_; have BK339 := n3_; have BK340 := n4_; have HB := n5_; have BK368 := n6_; have GW368 := n7_; have GE368 := n8_; have NB339_368 := n9_; have NB368_339 := n10_; have NB340_368 := n11_; have NB368_340 := n12_; clear n0_ n1_ n2_ n3_ n4_ n5_ n6_ n7_ n8_ n9_ n10_ n11_ n12_; clear hb hbox hg; have hnb46 := NB368_339.out; have hnc46 := NB339_368.out; have hnb47 := NB368_340.out; have hnc47 := NB340_368.out; have hcz48_0 : w45.cell? ⟨gb368, 0, none⟩ = some (.int .u64 0) := (blk_cell BK368.out 0).trans rfl; have hcz48_1 : w45.cell? ⟨gb368, 1, none⟩ = some (.int .u32 0) := (blk_cell BK368.out 1).trans rfl; have hcz48_2 : w45.cell? ⟨gb368, 2, none⟩ = some (.slice none 0 0) := (blk_cell BK368.out 2).trans rfl; have hcz48_3 : w45.cell? ⟨gb368, 3, none⟩ = some (.int .i64 0) := (blk_cell BK368.out 3).trans rfl; have hfz48_0 := blk_frozen BK368.out 0; have hfz48_1 := blk_frozen BK368.out 1; have hfz48_2 := blk_frozen BK368.out 2; have hfz48_3 := blk_frozen BK368.out 3; obtain ⟨Ao49, co49, eo49⟩ := Kd.V_slice HO365.out; subst eo49))
           have n0_ : Aside0 (Kd.R (Kd.int .i64) 3 ((((w45.setCell ⟨gb368, 0, none⟩ (.int .u64 t361)).setCell ⟨gb368, 1, none⟩ (.int .u32 t362)).setCell ⟨gb368, 2, none⟩ (.slice Ao49 t363.length co49)).setCell ⟨gb368, 3, none⟩ (.int .i64 t366)) w.heap.size (fun k_ => (w.heap.size ≤ k_)) u9 x9_2) := ⟨by (with_reducible repeat (first | apply Kd.R_alloc | apply Kd.R_drewN | apply Kd.R_drew)); exact Kd.R_mono (Kd.R_far (p := ⟨gb368, 3, none⟩) (Kd.R_far (p := ⟨gb368, 2, none⟩) (Kd.R_far (p := ⟨gb368, 1, none⟩) (Kd.R_far (p := ⟨gb368, 0, none⟩) (Kd.R_types HO_9.out BK368.out (by decide)) (fun _ hk => hk.2) (.int .u64 t361)) (fun _ hk => hk.2) (.int .u32 t362)) (fun _ hk => hk.2) (.slice Ao49 t363.length co49)) (fun _ hk => hk.2) (.int .i64 t366)) (fun _ hk => hk.1)⟩
           have n1_ : Aside0 (Kd.V (Kd.int .u8) 5 ((((w45.setCell ⟨gb368, 0, none⟩ (.int .u64 t361)).setCell ⟨gb368, 1, none⟩ (.int .u32 t362)).setCell ⟨gb368, 2, none⟩ (.slice Ao49 t363.length co49)).setCell ⟨gb368, 3, none⟩ (.int .i64 t366)) w.heap.size (fun k_ => (P0_2_ k_ ∨ w.heap.size ≤ k_) ∧ some k_ ≠ (u9 : Value).ownBlock ∧ k_ ≠ gb339 ∧ k_ ≠ gb340 ∧ k_ ≠ gb368) (.slice Ao43 x340002_2.length co43) x340002_2) := ⟨by (with_reducible repeat (first | apply Kd.V_alloc | apply Kd.V_drewN | apply Kd.V_drew)); exact Kd.V_mono (Kd.V_far (p := ⟨gb368, 3, none⟩) (Kd.V_far (p := ⟨gb368, 2, none⟩) (Kd.V_far (p := ⟨gb368, 1, none⟩) (Kd.V_far (p := ⟨gb368, 0, none⟩) (Kd.V_mono HO_340002.out (fun k_ hk => (⟨hk, hk.2⟩ : _ ∧ k_ ≠ gb368))) (fun _ hk => hk.2) (.int .u64 t361)) (fun _ hk => hk.2) (.int .u32 t362)) (fun _ hk => hk.2) (.slice Ao49 t363.length co49)) (fun _ hk => hk.2) (.int .i64 t366)) (fun _ hk => ⟨hk.1.1.1, ⟨hk.1.1.2.1, ⟨hk.1.1.2.2.1, ⟨hk.1.1.2.2.2, hk.1.2⟩⟩⟩⟩)⟩
           have n2_ : Aside0 (Kd.V (Kd.int .u8) 5 ((((w45.setCell ⟨gb368, 0, none⟩ (.int .u64 t361)).setCell ⟨gb368, 1, none⟩ (.int .u32 t362)).setCell ⟨gb368, 2, none⟩ (.slice Ao49 t363.length co49)).setCell ⟨gb368, 3, none⟩ (.int .i64 t366)) w.heap.size (fun k_ => (P0_2_ k_ ∨ w.heap.size ≤ k_) ∧ some k_ ≠ (u9 : Value).ownBlock ∧ k_ ≠ gb339 ∧ k_ ≠ gb340 ∧ k_ ≠ gb368) (.slice Ao49 t363.length co49) t363) := ⟨by (with_reducible repeat (first | apply Kd.V_alloc | apply Kd.V_drewN | apply Kd.V_drew)); exact Kd.V_mono (Kd.V_far (p := ⟨gb368, 3, none⟩) (Kd.V_far (p := ⟨gb368, 2, none⟩) (Kd.V_far (p := ⟨gb368, 1, none⟩) (Kd.V_far (p := ⟨gb368, 0, none⟩) (Kd.V_mono HO365.out (fun k_ hk => (⟨hk, hk.2⟩ : _ ∧ k_ ≠ gb368))) (fun _ hk => hk.2) (.int .u64 t361)) (fun _ hk => hk.2) (.int .u32 t362)) (fun _ hk => hk.2) (.slice Ao49 t363.length co49)) (fun _ hk => hk.2) (.int .i64 t366)) (fun _ hk => ⟨hk.1.1.1, ⟨hk.1.1.2.1, ⟨hk.1.1.2.2.1, ⟨hk.1.1.2.2.2, hk.1.2⟩⟩⟩⟩)⟩
           have n3_ : Aside0 (((((w45.setCell ⟨gb368, 0, none⟩ (.int .u64 t361)).setCell ⟨gb368, 1, none⟩ (.int .u32 t362)).setCell ⟨gb368, 2, none⟩ (.slice Ao49 t363.length co49)).setCell ⟨gb368, 3, none⟩ (.int .i64 t366)).heap[gb339]? = some (.cells #[.int .u64 x340000_2, .int .u32 x340001_2, .slice Ao43 x340002_2.length co43, .int .i64 x340003_2] 60 (0, 0))) := ⟨by (with_reducible repeat (first | refine blk_drewN ?_ _ | refine blk_drew ?_ | refine blk_alloc ?_ _)); refine blk_far ?_ NB339_368.out _; (with_reducible repeat (first | refine blk_drewN ?_ _ | refine blk_drew ?_ | refine blk_alloc ?_ _)); refine blk_far ?_ NB339_368.out _; (with_reducible repeat (first | refine blk_drewN ?_ _ | refine blk_drew ?_ | refine blk_alloc ?_ _)); refine blk_far ?_ NB339_368.out _; (with_reducible repeat (first | refine blk_drewN ?_ _ | refine blk_drew ?_ | refine blk_alloc ?_ _)); refine blk_far ?_ NB339_368.out _; (with_reducible repeat (first | refine blk_drewN ?_ _ | refine blk_drew ?_ | refine blk_alloc ?_ _)); exact BK339.out⟩
           have n4_ : Aside0 (((((w45.setCell ⟨gb368, 0, none⟩ (.int .u64 t361)).setCell ⟨gb368, 1, none⟩ (.int .u32 t362)).setCell ⟨gb368, 2, none⟩ (.slice Ao49 t363.length co49)).setCell ⟨gb368, 3, none⟩ (.int .i64 t366)).heap[gb340]? = some (.cells #[.int .u64 0, .int .u32 0, .slice none 0 0, .int .i64 0] 60 (0, 0))) := ⟨by (with_reducible repeat (first | refine blk_drewN ?_ _ | refine blk_drew ?_ | refine blk_alloc ?_ _)); refine blk_far ?_ NB340_368.out _; (with_reducible repeat (first | refine blk_drewN ?_ _ | refine blk_drew ?_ | refine blk_alloc ?_ _)); refine blk_far ?_ NB340_368.out _; (with_reducible repeat (first | refine blk_drewN ?_ _ | refine blk_drew ?_ | refine blk_alloc ?_ _)); refine blk_far ?_ NB340_368.out _; (with_reducible repeat (first | refine blk_drewN ?_ _ | refine blk_drew ?_ | refine blk_alloc ?_ _)); refine blk_far ?_ NB340_368.out _; (with_reducible repeat (first | refine blk_drewN ?_ _ | refine blk_drew ?_ | refine blk_alloc ?_ _)); exact BK340.out⟩
           have n5_ : Aside0 (((((w45.setCell ⟨gb368, 0, none⟩ (.int .u64 t361)).setCell ⟨gb368, 1, none⟩ (.int .u32 t362)).setCell ⟨gb368, 2, none⟩ (.slice Ao49 t363.length co49)).setCell ⟨gb368, 3, none⟩ (.int .i64 t366)).heap[gb368]? = some (.cells #[.int .u64 t361, .int .u32 t362, .slice Ao49 t363.length co49, .int .i64 t366] 60 (0, 0))) := ⟨by (with_reducible repeat (first | refine blk_drewN ?_ _ | refine blk_drew ?_ | refine blk_alloc ?_ _)); refine blk_put (cs := #[.int .u64 t361, .int .u32 t362, .slice Ao49 t363.length co49, .int .i64 0]) ?_ 3 _ rfl; (with_reducible repeat (first | refine blk_drewN ?_ _ | refine blk_drew ?_ | refine blk_alloc ?_ _)); refine blk_put (cs := #[.int .u64 t361, .int .u32 t362, .slice none 0 0, .int .i64 0]) ?_ 2 _ rfl; (with_reducible repeat (first | refine blk_drewN ?_ _ | refine blk_drew ?_ | refine blk_alloc ?_ _)); refine blk_put (cs := #[.int .u64 t361, .int .u32 0, .slice none 0 0, .int .i64 0]) ?_ 1 _ rfl; (with_reducible repeat (first | refine blk_drewN ?_ _ | refine blk_drew ?_ | refine blk_alloc ?_ _)); refine blk_put (cs := #[.int .u64 0, .int .u32 0, .slice none 0 0, .int .i64 0]) ?_ 0 _ rfl; (with_reducible repeat (first | refine blk_drewN ?_ _ | refine blk_drew ?_ | refine blk_alloc ?_ _)); exact BK368.out⟩
           have n6_ : Aside0 (Below w.heap.size w ((((w45.setCell ⟨gb368, 0, none⟩ (.int .u64 t361)).setCell ⟨gb368, 1, none⟩ (.int .u32 t362)).setCell ⟨gb368, 2, none⟩ (.slice Ao49 t363.length co49)).setCell ⟨gb368, 3, none⟩ (.int .i64 t366))) := ⟨bB HB.out⟩
           (try clear HO_9)
           (try clear HO_340002)
           (try clear HO365)
           (try clear BK339)
           (try clear BK340)
           (try clear BK368)
           (try clear HB)
           generalize ((((w45.setCell ⟨gb368, 0, none⟩ (.int .u64 t361)).setCell ⟨gb368, 1, none⟩ (.int .u32 t362)).setCell ⟨gb368, 2, none⟩ (.slice Ao49 t363.length co49)).setCell ⟨gb368, 3, none⟩ (.int .i64 t366)) = w50 at n0_ n1_ n2_ n3_ n4_ n5_ n6_ ⊢
           have HO_9 := n0_
           have HO_340002 := n1_
           have HO365 := n2_
           have BK339 := n3_
           have BK340 := n4_
           have BK368 := n5_
           have HB := n6_
           clear n0_ n1_ n2_ n3_ n4_ n5_ n6_
           have n0_ := Am (Kd.R_drew HO_9.out)
           have n1_ := Am (Kd.V_drew HO_340002.out)
           have n2_ := Am (Kd.V_drew HO365.out)
           have n3_ := Am (blk_drew BK339.out)
           have n4_ := Am (blk_drew BK340.out)
           have n5_ := Am (blk_drew BK368.out)
           have n6_ := Am (below_drew1 HB.out)
           clear HO_9
           clear HO_340002
           clear HO365
           clear BK339
           clear BK340
           clear BK368
           clear HB
           have HO_9 := n0_
           have HO_340002 := n1_
           have HO365 := n2_
           have BK339 := n3_
           have BK340 := n4_
           have BK368 := n5_
           have HB := n6_
           clear n0_ n1_ n2_ n3_ n4_ n5_ n6_
           refine start_ (n := 7) (S := fun w' => w'.cell? ⟨gb368, 0, none⟩ = some (.int .u64 t361) ∧ w'.cell? ⟨gb368, 1, none⟩ = some (.int .u32 t362) ∧ w'.cell? ⟨gb368, 2, none⟩ = some (.slice Ao49 t363.length co49) ∧ w'.cell? ⟨gb368, 3, none⟩ = some (.int .i64 t366)) (ds := []) #[false, false, false, false, false, false, false] (by kernel_rfl) rfl rfl ⟨(blk_cell BK368.out 0).trans rfl, (blk_cell BK368.out 1).trans rfl, (blk_cell BK368.out 2).trans rfl, (blk_cell BK368.out 3).trans rfl⟩ (fun hHeld => ?_)
           generalize w50.drew = w51 at HO_9 HO_340002 HO365 BK339 BK340 BK368 HB hHeld ⊢
           refine pure_ (i := 1) (N := some 44) (v := ?_) (a' := ?_) #[false, true, false, false, false, false, false] rfl rfl (by kernel_rfl) (fun _ _ _ h => h) (Or.inl ⟨by rfl, ?_⟩) ?_ ?_
           rotate_left
           ·intro w'
            go_simp
            with_reducible rfl
           rotate_left
           ·simp only [Act.put, List.setIfInBounds_toArray, List.set_cons_zero, List.set_cons_succ, i64_w, i32_w]
            rfl
           refine pure_ (i := 2) (N := some 45) (v := ?_) (a' := ?_) #[false, true, true, false, false, false, false] rfl rfl (by kernel_rfl) (fun _ _ _ h => h) (Or.inl ⟨by rfl, ?_⟩) ?_ ?_
           rotate_left
           ·intro w'
            go_simp
            with_reducible rfl
           rotate_left
           ·simp only [Act.put, List.setIfInBounds_toArray, List.set_cons_zero, List.set_cons_succ, i64_w, i32_w]
            rfl
           refine take_ (i := 0) (N := some 43) (v := ?_) (a' := ?_) #[true, true, true, false, false, false, false] rfl rfl (by kernel_rfl) (fun _ _ _ h => h) (Or.inl ⟨by rfl, ?_⟩) hHeld ?_ ?_
           rotate_left
           ·rintro w' ⟨s0, s1, s2, s3⟩
            go_simp
            with_reducible rfl
           rotate_left
           ·simp only [Act.put, List.setIfInBounds_toArray, List.set_cons_zero, List.set_cons_succ, i64_w, i32_w]
            rfl
           refine one_ (i := 3) (N := some 46) #[true, true, true, true, false, false, false] rfl rfl (by kernel_rfl) (by decide) (fun K hK => ?_)
           refine value_ (w1 := ?_) (v := ?_) (by rfl) rfl ?_ ?_
           rotate_left 2
           ·go_simp
            constructor
            ·rfl
            ·rfl
           refine hK.out _ _ ⟨(blk_cell (blk_alloc BK368.out _) 0).trans rfl, (blk_cell (blk_alloc BK368.out _) 1).trans rfl, (blk_cell (blk_alloc BK368.out _) 2).trans rfl, (blk_cell (blk_alloc BK368.out _) 3).trans rfl⟩ (fun hHeld => ?_)
           clear hK K
           refine norm_ (a' := ?_) ?_ ?_
           rotate_left
           ·show Act.put _ (some 46) _ = _
            simp only [Act.put, List.setIfInBounds_toArray, List.set_cons_zero, List.set_cons_succ, i64_w, i32_w]
            rfl
           refine one_ (i := 4) (N := some 47) #[true, true, true, true, true, false, false] rfl rfl (by kernel_rfl) (by decide) (fun K hK => ?_)
           refine Kd.R_append_step (Kd.int .i64) (w0 := w) w.heap.size (by rfl) (.tmp 44) (.tmp 46) 54 3 (.int .i64 0) 8 rfl Try.underlying54 info3 rfl (by decide) (by omega) u9 x9_2 t367 [.int .i64 t367] (fun k_ => (w.heap.size ≤ k_)) (fun _ => False) rfl rfl ?aP (fun _ hk => hk.elim) ?aF ?aO ?aB ?aS ?aL ?_
           (case aP => exact rfl)
           (case aB => exact (bB HB.out))
           (case aF => exact (fun k_ hk => (Nat.le_trans (below_size (bB HB.out)) hk)))
           (case aO => exact (kR HO_9.out))
           (case aS => exact (below_size (bB HB.out)))
           (case aL => have := LMc40.out; omega)
           intro v370 w52 ho hb hg hat
           rw [← Ny369.out] at ho
           have n0_ := Am (Kd.V_afterv (ok := (fun k_ => (P0_2_ k_ ∨ w.heap.size ≤ k_) ∧ k_ ≠ gb339 ∧ k_ ≠ gb340 ∧ k_ ≠ gb368)) (by (with_reducible repeat (first | apply Kd.V_alloc | apply Kd.V_drewN | apply Kd.V_drew)); exact Kd.V_mono HO_340002.out (fun _ hk => ⟨⟨hk.1, ⟨hk.2.2.1, ⟨hk.2.2.2.1, hk.2.2.2.2⟩⟩⟩, hk.2.1⟩)) hg hat)
           have n1_ := Am (blk_grown (g := gb339) (o := .cells #[.int .u64 x340000_2, .int .u32 x340001_2, .slice Ao43 x340002_2.length co43, .int .i64 x340003_2] 60 (0, 0)) (bK BK339.out) hg (Kd.R_ne HO_9.out BK339.out (by decide)))
           have n2_ := Am (blk_grown (g := gb340) (o := .cells #[.int .u64 0, .int .u32 0, .slice none 0 0, .int .i64 0] 60 (0, 0)) (bK BK340.out) hg (Kd.R_ne HO_9.out BK340.out (by decide)))
           have n3_ := Am (Kd.V_afterv (ok := (fun k_ => (P0_2_ k_ ∨ w.heap.size ≤ k_) ∧ k_ ≠ gb339 ∧ k_ ≠ gb340 ∧ k_ ≠ gb368)) (by (with_reducible repeat (first | apply Kd.V_alloc | apply Kd.V_drewN | apply Kd.V_drew)); exact Kd.V_mono HO365.out (fun _ hk => ⟨⟨hk.1, ⟨hk.2.2.1, ⟨hk.2.2.2.1, hk.2.2.2.2⟩⟩⟩, hk.2.1⟩)) hg hat)
           have n4_ := Am (blk_grown (g := gb368) (o := .cells #[.int .u64 t361, .int .u32 t362, .slice Ao49 t363.length co49, .int .i64 t366] 60 (0, 0)) (bK BK368.out) hg (Kd.R_ne HO_9.out BK368.out (by decide)))
           have n5_ := Am (hb)
           have n6_ := Am (ho)
           clear HO_340002
           clear BK339
           clear BK340
           clear HO365
           clear BK368
           clear HB
           clear HO_9
           have HO_340002 := n0_
           have BK339 := n1_
           have BK340 := n2_
           have HO365 := n3_
           have BK368 := n4_
           have HB := n5_
           have HO371 := n6_
           clear n0_ n1_ n2_ n3_ n4_ n5_ n6_
           clear ho hb hg hat
           refine hK.out _ _ ⟨(blk_cell BK368.out 0).trans rfl, (blk_cell BK368.out 1).trans rfl, (blk_cell BK368.out 2).trans rfl, (blk_cell BK368.out 3).trans rfl⟩ (fun hHeld => ?_)
           clear hK K
           refine norm_ (a' := ?_) ?_ ?_
           rotate_left
           ·show Act.put _ (some 47) _ = _
            simp only [Act.put, List.setIfInBounds_toArray, List.set_cons_zero, List.set_cons_succ, i64_w, i32_w]
            rfl
           refine one_ (i := 5) (N := none) #[true, true, true, true, true, true, false] rfl rfl (by kernel_rfl) (by decide) (fun K hK => ?_)
           have hs53 : w52.cell? ⟨gb339, 0, none⟩ = some (.int .u64 x340000_2) := (blk_cell BK339.out 0).trans rfl
           have hfs53 := blk_frozen BK339.out 0
           have hns53_1 := NB340_339.out
           have hns53_2 := NB368_339.out
           have hms53_1 := NB339_340.out
           have hms53_2 := NB339_368.out
           have hs54 : w52.cell? ⟨gb339, 1, none⟩ = some (.int .u32 x340001_2) := (blk_cell BK339.out 1).trans rfl
           have hfs54 := blk_frozen BK339.out 1
           have hns54_1 := NB340_339.out
           have hns54_2 := NB368_339.out
           have hms54_1 := NB339_340.out
           have hms54_2 := NB339_368.out
           have hs55 : w52.cell? ⟨gb339, 2, none⟩ = some (.slice Ao43 x340002_2.length co43) := (blk_cell BK339.out 2).trans rfl
           have hfs55 := blk_frozen BK339.out 2
           have hns55_1 := NB340_339.out
           have hns55_2 := NB368_339.out
           have hms55_1 := NB339_340.out
           have hms55_2 := NB339_368.out
           have hs56 : w52.cell? ⟨gb339, 3, none⟩ = some (.int .i64 x340003_2) := (blk_cell BK339.out 3).trans rfl
           have hfs56 := blk_frozen BK339.out 3
           have hns56_1 := NB340_339.out
           have hns56_2 := NB368_339.out
           have hms56_1 := NB339_340.out
           have hms56_2 := NB339_368.out
           refine skip_ (w1 := ?_) (by rfl) rfl ?_ ?_
           rotate_left
           ·go_simp
            rfl
           refine hK.out _ _ ⟨((cell_far (p := ⟨gb339, _, none⟩) NB368_339.out _).trans (((cell_far (p := ⟨gb339, _, none⟩) NB368_339.out _).trans (((cell_far (p := ⟨gb339, _, none⟩) NB368_339.out _).trans (((cell_far (p := ⟨gb339, _, none⟩) NB368_339.out _).trans (hHeld.1)))))))), ((cell_far (p := ⟨gb339, _, none⟩) NB368_339.out _).trans (((cell_far (p := ⟨gb339, _, none⟩) NB368_339.out _).trans (((cell_far (p := ⟨gb339, _, none⟩) NB368_339.out _).trans (((cell_far (p := ⟨gb339, _, none⟩) NB368_339.out _).trans (hHeld.2.1)))))))), ((cell_far (p := ⟨gb339, _, none⟩) NB368_339.out _).trans (((cell_far (p := ⟨gb339, _, none⟩) NB368_339.out _).trans (((cell_far (p := ⟨gb339, _, none⟩) NB368_339.out _).trans (((cell_far (p := ⟨gb339, _, none⟩) NB368_339.out _).trans (hHeld.2.2.1)))))))), ((cell_far (p := ⟨gb339, _, none⟩) NB368_339.out _).trans (((cell_far (p := ⟨gb339, _, none⟩) NB368_339.out _).trans (((cell_far (p := ⟨gb339, _, none⟩) NB368_339.out _).trans (((cell_far (p := ⟨gb339, _, none⟩) NB368_339.out _).trans (hHeld.2.2.2))))))))⟩ (fun hHeld => ?_)
           clear hK K
           refine pure_ (i := 6) (N := some 9) (v := ?_) (a' := ?_) #[true, true, true, true, true, true, true] rfl rfl (by kernel_rfl) (fun _ _ _ h => h) (Or.inl ⟨by rfl, ?_⟩) ?_ ?_
           rotate_left
           ·intro w'
            go_simp
            with_reducible rfl
           rotate_left
           ·simp only [Act.put, List.setIfInBounds_toArray, List.set_cons_zero, List.set_cons_succ, i64_w, i32_w]
            rfl
           refine done_ (by kernel_rfl) ?_
           try go_wp2
           go_roundg k2
           case measure => have := HJ3.out; have := HK2.out; omega
           case rel => exact ⟨(y369), (wrap64 (x27_2 + 1)), (t361), (t362), (t363), (t366), (.slice Ao49 t363.length co49), rs_, H', ⟨by have := HJ3.out; have := HK2.out; omega⟩, ⟨by (with_reducible repeat (first | apply Kd.R_alloc | apply Kd.R_drewN | apply Kd.R_drew)); exact Kd.R_mono (Kd.R_far (p := ⟨gb339, 3, none⟩) (Kd.R_far (p := ⟨gb339, 2, none⟩) (Kd.R_far (p := ⟨gb339, 1, none⟩) (Kd.R_far (p := ⟨gb339, 0, none⟩) (Kd.R_types HO371.out BK339.out (by decide)) (fun _ hk => hk.2) (.int .u64 t361)) (fun _ hk => hk.2) (.int .u32 t362)) (fun _ hk => hk.2) (.slice Ao49 t363.length co49)) (fun _ hk => hk.2) (.int .i64 t366)) (fun _ hk => hk.1)⟩, ⟨by (with_reducible repeat (first | apply Kd.V_alloc | apply Kd.V_drewN | apply Kd.V_drew)); exact Kd.V_mono (Kd.V_far (p := ⟨gb339, 3, none⟩) (Kd.V_far (p := ⟨gb339, 2, none⟩) (Kd.V_far (p := ⟨gb339, 1, none⟩) (Kd.V_far (p := ⟨gb339, 0, none⟩) (Kd.V_mono HO365.out (fun k_ hk => (⟨hk, hk.1.2.1⟩ : _ ∧ k_ ≠ gb339))) (fun _ hk => hk.2) (.int .u64 t361)) (fun _ hk => hk.2) (.int .u32 t362)) (fun _ hk => hk.2) (.slice Ao49 t363.length co49)) (fun _ hk => hk.2) (.int .i64 t366)) (fun _ hk => ⟨hk.1.1.1, ⟨hk.1.2, ⟨hk.1.1.2.1, hk.1.1.2.2.1⟩⟩⟩)⟩, ⟨by (with_reducible repeat (first | refine blk_drewN ?_ _ | refine blk_drew ?_ | refine blk_alloc ?_ _)); refine blk_put (cs := #[.int .u64 t361, .int .u32 t362, .slice Ao49 t363.length co49, .int .i64 x340003_2]) ?_ 3 _ rfl; (with_reducible repeat (first | refine blk_drewN ?_ _ | refine blk_drew ?_ | refine blk_alloc ?_ _)); refine blk_put (cs := #[.int .u64 t361, .int .u32 t362, .slice Ao43 x340002_2.length co43, .int .i64 x340003_2]) ?_ 2 _ rfl; (with_reducible repeat (first | refine blk_drewN ?_ _ | refine blk_drew ?_ | refine blk_alloc ?_ _)); refine blk_put (cs := #[.int .u64 t361, .int .u32 x340001_2, .slice Ao43 x340002_2.length co43, .int .i64 x340003_2]) ?_ 1 _ rfl; (with_reducible repeat (first | refine blk_drewN ?_ _ | refine blk_drew ?_ | refine blk_alloc ?_ _)); refine blk_put (cs := #[.int .u64 x340000_2, .int .u32 x340001_2, .slice Ao43 x340002_2.length co43, .int .i64 x340003_2]) ?_ 0 _ rfl; (with_reducible repeat (first | refine blk_drewN ?_ _ | refine blk_drew ?_ | refine blk_alloc ?_ _)); exact BK339.out⟩, ⟨by (with_reducible repeat (first | refine blk_drewN ?_ _ | refine blk_drew ?_ | refine blk_alloc ?_ _)); refine blk_far ?_ NB340_339.out _; (with_reducible repeat (first | refine blk_drewN ?_ _ | refine blk_drew ?_ | refine blk_alloc ?_ _)); refine blk_far ?_ NB340_339.out _; (with_reducible repeat (first | refine blk_drewN ?_ _ | refine blk_drew ?_ | refine blk_alloc ?_ _)); refine blk_far ?_ NB340_339.out _; (with_reducible repeat (first | refine blk_drewN ?_ _ | refine blk_drew ?_ | refine blk_alloc ?_ _)); refine blk_far ?_ NB340_339.out _; (with_reducible repeat (first | refine blk_drewN ?_ _ | refine blk_drew ?_ | refine blk_alloc ?_ _)); exact BK340.out⟩, ⟨bB HB.out⟩⟩
          ·rw [if_neg c40] at H
           exact absurd H (by simp)
         ·rw [if_neg c38] at H
          exact absurd H (by simp)
        ·rw [if_neg c37] at H
         exact absurd H (by simp)
      ·rw [if_neg c17] at H
       have c17b0 : decide (x27_2 < 5) = false := decide_eq_false c17
       clear c17
       simp only [Option.some.injEq, Prod.mk.injEq] at H
       obtain ⟨rfl, rfl, rfl, rfl, rfl, rfl⟩ := H
       have hnb57 := NB339_340.out
       have hnc57 := NB340_339.out
       have hcz58_0 : wr.cell? ⟨gb339, 0, none⟩ = some (.int .u64 x340000_2) := (blk_cell BK339.out 0).trans rfl
       have hcz58_1 : wr.cell? ⟨gb339, 1, none⟩ = some (.int .u32 x340001_2) := (blk_cell BK339.out 1).trans rfl
       have hcz58_2 : wr.cell? ⟨gb339, 2, none⟩ = some (u340002) := (blk_cell BK339.out 2).trans rfl
       have hcz58_3 : wr.cell? ⟨gb339, 3, none⟩ = some (.int .i64 x340003_2) := (blk_cell BK339.out 3).trans rfl
       have hfz58_0 := blk_frozen BK339.out 0
       have hfz58_1 := blk_frozen BK339.out 1
       have hfz58_2 := blk_frozen BK339.out 2
       have hfz58_3 := blk_frozen BK339.out 3
       have hcz59_0 : wr.cell? ⟨gb340, 0, none⟩ = some (.int .u64 0) := (blk_cell BK340.out 0).trans rfl
       have hcz59_1 : wr.cell? ⟨gb340, 1, none⟩ = some (.int .u32 0) := (blk_cell BK340.out 1).trans rfl
       have hcz59_2 : wr.cell? ⟨gb340, 2, none⟩ = some (.slice none 0 0) := (blk_cell BK340.out 2).trans rfl
       have hcz59_3 : wr.cell? ⟨gb340, 3, none⟩ = some (.int .i64 0) := (blk_cell BK340.out 3).trans rfl
       have hfz59_0 := blk_frozen BK340.out 0
       have hfz59_1 := blk_frozen BK340.out 1
       have hfz59_2 := blk_frozen BK340.out 2
       have hfz59_3 := blk_frozen BK340.out 3
       obtain ⟨Ao60, co60, eo60⟩ := Kd.V_slice HO_340002.out
       subst eo60
       go_wp2
       refine bodyPost_ret (results_ctt rfl _ _ gb340 60 #[.int .u64 x340000_2, .int .u32 x340001_2, .slice Ao60 x340002_2.length co60, .int .i64 x340003_2] (0, 0) _ rfl (by (with_reducible repeat (first | refine blk_drewN ?_ _ | refine blk_drew ?_ | refine blk_alloc ?_ _)); refine blk_put (cs := #[.int .u64 x340000_2, .int .u32 x340001_2, .slice Ao60 x340002_2.length co60, .int .i64 0]) ?_ 3 _ rfl; (with_reducible repeat (first | refine blk_drewN ?_ _ | refine blk_drew ?_ | refine blk_alloc ?_ _)); refine blk_put (cs := #[.int .u64 x340000_2, .int .u32 x340001_2, .slice none 0 0, .int .i64 0]) ?_ 2 _ rfl; (with_reducible repeat (first | refine blk_drewN ?_ _ | refine blk_drew ?_ | refine blk_alloc ?_ _)); refine blk_put (cs := #[.int .u64 x340000_2, .int .u32 0, .slice none 0 0, .int .i64 0]) ?_ 1 _ rfl; (with_reducible repeat (first | refine blk_drewN ?_ _ | refine blk_drew ?_ | refine blk_alloc ?_ _)); refine blk_put (cs := #[.int .u64 0, .int .u32 0, .slice none 0 0, .int .i64 0]) ?_ 0 _ rfl; (with_reducible repeat (first | refine blk_drewN ?_ _ | refine blk_drew ?_ | refine blk_alloc ?_ _)); exact BK340.out) Try.underlying60 rfl (by kernel_rfl)) rfl ?_
       exact ⟨_, _, by first | rfl | (simp [errW_none, errW_some] <;> rfl) | (simp [*, errW_none, errW_some] <;> rfl), by (with_reducible repeat (first | apply Kd.V_alloc | apply Kd.V_drewN | apply Kd.V_drew)); exact Kd.V_mono (Kd.V_far (p := ⟨gb340, 3, none⟩) (Kd.V_far (p := ⟨gb340, 2, none⟩) (Kd.V_far (p := ⟨gb340, 1, none⟩) (Kd.V_far (p := ⟨gb340, 0, none⟩) (Kd.V_mono HO_340002.out (fun k_ hk => (⟨hk, hk.2.2.2⟩ : _ ∧ k_ ≠ gb340))) (fun _ hk => hk.2) (.int .u64 x340000_2)) (fun _ hk => hk.2) (.int .u32 x340001_2)) (fun _ hk => hk.2) (.slice Ao60 x340002_2.length co60)) (fun _ hk => hk.2) (.int .i64 x340003_2)) (fun _ hk => ⟨hk.1.1, hk.1.2.1⟩), by (with_reducible repeat (first | apply Kd.R_alloc | apply Kd.R_drewN | apply Kd.R_drew)); exact Kd.R_mono (Kd.R_far (p := ⟨gb340, 3, none⟩) (Kd.R_far (p := ⟨gb340, 2, none⟩) (Kd.R_far (p := ⟨gb340, 1, none⟩) (Kd.R_far (p := ⟨gb340, 0, none⟩) (Kd.R_types HO_9.out BK340.out (by decide)) (fun _ hk => hk.2) (.int .u64 x340000_2)) (fun _ hk => hk.2) (.int .u32 x340001_2)) (fun _ hk => hk.2) (.slice Ao60 x340002_2.length co60)) (fun _ hk => hk.2) (.int .i64 x340003_2)) (fun _ hk => hk.1), bB HB.out⟩

end Go.Proofs.Ytgknajladloffaa.Q
